/- Merged. -/
import Derived.Test.YthcfkplfmjcmoaaGreatDoorQ32
import Derived.Test.YthcfkplfmjcmoaaGreatDoorQ13
import Derived.Test.YthcfkplfmjcmoaaGreatDoorQ17
import Derived.Test.YthcfkplfmjcmoaaGreatDoorQ24
namespace Go.Ax.Cd
open Go.Proofs
set_option linter.unusedVariables false
set_option linter.unusedSimpArgs false
set_option maxRecDepth 100000
def sqa : Code → Code
  | .seq a _ => a
  | c => c
def sqb : Code → Code
  | .seq _ b => b
  | c => c
def runB (p0 : doE.T) (p1 : programE.T) (p2 : freeE.T) (c : Cfg) (o : Opn) (got : List Int) : F Res :=
  (p0 ⟨1, 0, 0, 0, 0, 0⟩ c got []).bind fun _ => (p1 o c got []).bind fun x => (p2 c got x.2).bind fun _ => (p0 ⟨2, 0, 0, 0, 0, 0⟩ c got []).bind fun _ => .ret x.1
abbrev nV (c : Cfg) (o : Opn) (got : List Int) : T Res := (runB doF programF freeF c o got).tree
abbrev rz : Res := ⟨0, 0, [], [], []⟩
def runSp (x : VhL [.s (.e (.st .cfg)), .s (.e (.st .opn)), .s (.e (.sl .int))] × OShL []) : Option (VhL [.s (.e (.sl (.st .acc))), .s (.e (.st .res)), vb] × OShL []) := match (nV x.1.1 x.1.2.1 x.1.2.2.1).exec x.1.2.2.1 [] with
  | .ok r d => some ((d, r, true, ()), ())
  | .stop d => some ((d, rz, false, ()), ())
  | .bot => none
noncomputable abbrev R0 : Code := sqa (body Tryz.f95)
noncomputable abbrev R1 : Code := sqa (sqb (body Tryz.f95))
noncomputable abbrev R2 : Code := sqa (sqb (sqb (body Tryz.f95)))
noncomputable abbrev R3 : Code := sqa (sqb (sqb (sqb (body Tryz.f95))))
noncomputable abbrev R4 : Code := sqa (sqb (sqb (sqb (sqb (body Tryz.f95)))))
noncomputable abbrev R5 : Code := sqa (sqb (sqb (sqb (sqb (sqb (body Tryz.f95))))))
noncomputable abbrev R6 : Code := sqa (sqb (sqb (sqb (sqb (sqb (sqb (body Tryz.f95)))))))
noncomputable abbrev R7 : Code := sqb (sqb (sqb (sqb (sqb (sqb (sqb (body Tryz.f95)))))))
theorem b21 : body Tryz.f95 = .seq R0 (.seq R1 (.seq R2 (.seq R3 (.seq R4 (.seq R5 (.seq R6 R7)))))) := by kernel_rfl
abbrev vs0 : List Vh := [.s (.e (.st .cfg)), .s (.e (.st .opn)), .s (.e (.sl .int))]
abbrev vs1 : List Vh := [.s (.ptr 0 0), .s (.ptr 1 0), .s (.ptr 2 0), .s (.ptr 3 0), .s (.ptr 4 0)]
abbrev os1 : List OSh := [.box [.e (.st .opn)], .box [.e (.sl (.st .acc))], .box [.e (.st .res)], .box [.e .bool], .box [.ptr 5 0], .box [.e (.st .cfg), .e (.sl .int), .own 6, .sln .int], .arr (.st .acc)]
abbrev bNd : List (Nat × List NilH) := [(1, [(13, some 6, .st .acc)])]
noncomputable def bKq (e : AEx) (s : St) : Option (VhL vs1 × OShL os1) := match e with
  | .normal => if s.tm.length = Tryz.f95.ntmps then dP 0 vs1 os1 (nE [4, 6, 7, 8, 9] s) s else none
  | _ => none
theorem bIr (c : Cfg) (o : Opn) (got : List Int) : exec Tryz.prog gl kd [] 0 plan [] bNd (.seq R0 R1) (bX Tryz.f95.ntmps vs0 [] ((c, o, got, ()), ())) bKq =
    some (((), (), (), (), (), ()), ((o, ()), ([], ()), (rz, ()), (false, ()), ((), ()), (c, got, (), [], ()), [], ())) := by kernel_rfl
abbrev V3 : List Vh := [.s (.ptr 1 0), .s (.ptr 2 0), .s (.ptr 3 0)]
abbrev os3 : List OSh := [.any, .box [.any], .box [.e (.st .res)], .box [.e .bool], .box [.ptr 5 0], .box [.e (.st .cfg), .e (.sl .int), .own 6, .any], .arr (.st .acc)]
abbrev os3p : List OSh := [.any, .box [.any], .box [.any, .any, .any, .any, .any], .box [.any], .box [.ptr 5 0], .box [.e (.st .cfg), .e (.sl .int), .own 6, .any], .arr (.st .acc)]
abbrev os6 : List OSh := [.any, .box [.any], .box [.e (.st .res)], .box [.any], .box [.ptr 5 0], .box [.e (.st .cfg), .e (.sl .int), .own 6, .any], .arr (.st .acc)]
noncomputable def vA (e : AEx) (s : St) : Option ((VhL V3 × OShL os6) ⊕ (VhL V3 × OShL os3p)) := match e with
  | .normal => if s.tm.length = Tryz.f95.ntmps then (dP 7 V3 os6 (nE [6, 7, 8] s) s).map .inl else none
  | .pan (.ifc t (.agg [])) => if t = 188 ∧ s.tm.length = Tryz.f95.ntmps then (dP 7 V3 os3p (nE [6, 7, 8] s) s).map .inr else none
  | _ => none
noncomputable abbrev runC : Code := .seq R3 (.seq R4 (.seq R5 R6))
noncomputable def bKr (e : AEx) (s : St) : Option (VhL V3 × OShL os3) := match e with
  | .ret => if s.tm.length = Tryz.f95.ntmps then dP 7 V3 os3 (nE [6, 7, 8] s) s else none
  | _ => none
abbrev X6 (c : Cfg) (got : List Int) (r : Res) (d : List Acc) : OShL os6 := ((), ((), ()), (r, ()), ((), ()), ((), ()), (c, got, (), (), ()), d, ())
theorem bIs (c : Cfg) (got : List Int) (r : Res) (d : List Acc) : exec Tryz.prog gl kd [] 7 plan [] [] R7 { tm := Go.Ax.setT Tryz.f95.ntmps (([6, 7, 8] : List Nat).zip (VhL.enc V3 (((), (), (), ()) : VhL V3))), hp := OShL.enc os6 (X6 c got r d) } bKr =
    some (((), (), (), ()), ((), ((), ()), (r, ()), (true, ()), ((), ()), (c, got, (), (), ()), d, ())) := by kernel_rfl
noncomputable def runS (c : Cfg) (o : Opn) (got : List Int) : St := { tm := Go.Ax.setT Tryz.f95.ntmps (([4, 6, 7, 8, 9] : List Nat).zip (VhL.enc vs1 (((), (), (), (), (), ()) : VhL vs1))), hp := OShL.enc os1 (((o, ()), ([], ()), (rz, ()), (false, ()), ((), ()), (c, got, (), [], ()), [], ()) : OShL os1) }
abbrev runY (c : Cfg) (got : List Int) (r : Res) (d : List Acc) : (VhL V3 × OShL os6) ⊕ (VhL V3 × OShL os3p) := .inl (((), (), (), ()), X6 c got r d)
abbrev runZ (c : Cfg) (got : List Int) (d : List Acc) : (VhL V3 × OShL os6) ⊕ (VhL V3 × OShL os3p) := .inr (((), (), (), ()), ((), ((), ()), ((), (), (), (), (), ()), ((), ()), ((), ()), (c, got, (), (), ()), d, ()))
theorem bIt (p0 : doE.T) (p1 : programE.T) (p2 : freeE.T) (c : Cfg) (o : Opn) (got : List Int) : exec Tryz.prog gl kd [doE.on p0, programE.on p1, freeE.on p2] 7 plan [] [] runC (runS c o got) vA =
    F.run (fun d => some (runZ c got d)) got (runB p0 p1 p2 c o got) (fun r d => some (runY c got r d)) [] := by kernel_rfl
noncomputable abbrev runG : List (Nat × Con) := [doE.on doF, programE.on programF, freeE.on freeF]
theorem bGc (c : Cfg) (o : Opn) (got : List Int) : exec Tryz.prog gl kd runG 7 plan [] [] runC (runS c o got) vA = pT (runY c got) (runZ c got) ((nV c o got).exec got []) := by
  refine (bIt ..).trans ?_
  rw [F.run_eq]
  cases (nV c o got).exec got [] <;> rfl
theorem aAp : GOk Tryz.prog gl runG := doF_ok.k (program_ok.k (freeF_ok.k g0))
abbrev cloV : List Vh := [.s (.ptr 0 0), .s (.ptr 1 0), .s (.ptr 2 0), .s (.ptr 3 0)]
abbrev cloO : List OSh := [.box [.ptr 4 0], .box [.any], .box [.e (.st .res)], .box [.e .bool], .box [.e (.st .cfg), .e (.sl .int), .own 5, .any], .arr (.st .acc)]
abbrev cloO1 : List OSh := [.box [.ptr 4 0], .box [.own 5], .box [.e (.st .res)], .box [.e .bool], .box [.e (.st .cfg), .e (.sl .int), .own 5, .any], .arr (.st .acc)]
abbrev cloP : List OSh := [.box [.ptr 4 0], .box [.any], .box [.any, .any, .any, .any, .any], .box [.any], .box [.e (.st .cfg), .e (.sl .int), .own 5, .any], .arr (.st .acc)]
abbrev bGd : List OSh := [.box [.ptr 4 0], .box [.own 5], .box [.any, .any, .any, .any, .any], .box [.any], .box [.e (.st .cfg), .e (.sl .int), .own 5, .any], .arr (.st .acc)]
noncomputable abbrev C0 : Code := sqa (body Tryz.f138)
noncomputable abbrev C1 : Code := sqa (sqb (body Tryz.f138))
noncomputable abbrev C2 : Code := sqb (sqb (body Tryz.f138))
theorem b25 : body Tryz.f138 = .seq C0 (.seq C1 C2) := by kernel_rfl
noncomputable def cloK (os : List OSh) (e : AEx) (s : St) : Option (VhL [.s (.ptr 2 0), .s (.ptr 3 0)] × OShL os) := match e with
  | .normal => if s.tm.length = Tryz.f138.ntmps then dP 6 [.s (.ptr 2 0), .s (.ptr 3 0)] os (nE [2, 3] s) s else none
  | _ => none
theorem bNe (c : Cfg) (got : List Int) (d : List Acc) (r : Res) (b : Bool) : exec Tryz.prog gl kd [] 6 plan [] [] C0 (bX Tryz.f138.ntmps cloV cloO (((), (), (), (), ()), (((), ()), ((), ()), (r, ()), (b, ()), (c, got, (), (), ()), d, ()))) (cloK cloO1) =
    some (((), (), ()), (((), ()), ((), ()), (r, ()), (b, ()), (c, got, (), (), ()), d, ())) := by kernel_rfl
theorem bNf (c : Cfg) (got : List Int) (d : List Acc) : exec Tryz.prog gl kd [] 6 plan [] [] C0 (bX Tryz.f138.ntmps cloV cloP (((), (), (), (), ()), (((), ()), ((), ()), ((), (), (), (), (), ()), ((), ()), (c, got, (), (), ()), d, ()))) (cloK bGd) =
    some (((), (), ()), (((), ()), ((), ()), ((), (), (), (), (), ()), ((), ()), (c, got, (), (), ()), d, ())) := by kernel_rfl
noncomputable def cloF (e : AEx) (s : St) : Option (VhL [] × OShL cloO1) := match e with
  | .normal => dP 6 [] cloO1 [] s
  | _ => none
theorem bNg (c : Cfg) (got : List Int) (d : List Acc) : exec Tryz.prog gl kd [] 6 plan [] [] C2 { tm := (((Go.Ax.setT Tryz.f138.ntmps (([2, 3] : List Nat).zip (VhL.enc [.s (.ptr 2 0), .s (.ptr 3 0)] (((), (), ()) : VhL [.s (.ptr 2 0), .s (.ptr 3 0)])))).set 11 (.ifc 188 (.agg []))).set 4 (.ifc 188 (.agg []))), hp := OShL.enc bGd ((((), ()), ((), ()), ((), (), (), (), (), ()), ((), ()), (c, got, (), (), ()), d, ()) : OShL bGd) } cloF =
    some ((), (((), ()), ((), ()), (rz, ()), (false, ()), (c, got, (), (), ()), d, ())) := by kernel_rfl
def aIa (stopped : Bool) : FrameMode := bif stopped then .panicking [{ v := .iface 188 (.agg #[]), recovered := false }] else .returning
abbrev wS (c : Cfg) (got : List Int) (d : List Acc) (r : Res) (b : Bool) : OShL cloO1 := (((), ()), ((), ()), (r, ()), (b, ()), (c, got, (), (), ()), d, ())
section
variable {ρ : List Value} {F L : Nat → Prop} {w : World} {us : Array Value}
noncomputable abbrev cloCr : Con := Con.of cloV cloO [] cloO1 (fun x => some ((), wS x.2.2.2.2.2.1.1 x.2.2.2.2.2.1.2.1 x.2.2.2.2.2.2.1 x.2.2.2.1.1 x.2.2.2.2.1.1))
noncomputable abbrev cloCp : Con := Con.of cloV cloP [] cloO1 (fun x => some ((), wS x.2.2.2.2.2.1.1 x.2.2.2.2.2.1.2.1 x.2.2.2.2.2.2.1 rz false))
theorem bIu : ∀ (av : List AVal) (h : List AObj) (x : cloCr.X) (y : cloCr.Y), cloCr.dec av h = some x → cloCr.spec x = some y → ∀ (ρ : List Value) (F L : Nat → Prop), RepH ρ F L h w → VRs ρ w F (Bx F L) av us.toList → Glo gl w F →
    CallsD Tryz.prog 138 us .returning w fun e u' w' => settle u' = .returning ∧ ∃ ρ' F', yC (cloCr.out y).1 e ρ' w' F' (Bx F' L) ∧ RepH ρ' F' L (cloCr.out y).2 w' ∧ Stp w (Own ρ h) F w' (Own ρ' (cloCr.out y).2) F' ∧ PK ρ ρ' ∧ ∀ i ∈ cloCr.fix, ρ'[i]? = ρ[i]? := by
  rintro av h ⟨⟨_, _, _, _, _⟩, ⟨_, _⟩, ⟨_, _⟩, ⟨r, _⟩, ⟨b, _⟩, ⟨c, got, _, _, _⟩, d, _⟩ y hd hy ρ F L hR hv hg
  cases hy
  refine callsD_of_wpS (fn := Tryz.f138) (by kernel_rfl) (c := body Tryz.f138) (by kernel_rfl) (fun c₀ cs hu =>?_)
  rw [b25]
  obtain ⟨hn0, hI⟩ := lP (nt := Tryz.f138.ntmps) hd hR hv hg false
  refine wpS_seq (wpS_of_wp (wp_mono (bC hm GOk.nil bI hn0 C0 (.inl rfl) (aA (by kernel_rfl)) hI (bNe c got d r b)) (fun ex a w1 q =>?_)))
  cases ex with
  | normal =>
    obtain ⟨s, ρ1, F1, h1, h2⟩ := q
    simp only [cloK] at h2
    split at h2
    · rename_i hn
      obtain ⟨ρ2, F2, h3⟩ := kZ hn0 h1 hn h2
      have hsz : a.tmps.size = 23 := by
        have := h3.rep.tm.length
        rw [mB] at this
        exact (Array.length_toList (xs := a.tmps)) ▸ this.symm
      have hdf := h3.dfs
      simp only [Exit.thenS]
      refine wpS_seq ?_
      simp only [C1, body, Tryz.f138, Option.getD, sqa, sqb]
      apply wpS_region
      simp [wpOpsS, go_sem, recoverD, hu, Exit.thenS, hsz]
      simp only [C2, body, Tryz.f138, Option.getD, sqa, sqb]
      refine wpS_seq ?_
      apply wpS_region
      simp [wpOpsS, go_sem, Exit.thenS, hsz]
      refine wpS_cond (t := false) (by simp [Act.eval, hsz]) ?_
      refine wpS_of_wp (wp_skip ?_)
      refine ⟨hdf, .returning, by rw [← hu], .tuple #[], by simp [results, Tryz.f138], rfl, ρ2, F2, ⟨_, rfl, by simp only [VR, pL, VhL.enc]; exact ⟨#[], rfl, by simp [VRs]⟩⟩, h3.h, h3.stp, h3.pk⟩
    · cases h2
  | exit i => obtain ⟨s, ρ1, F1, h1, h2⟩ := q; cases h2
  | ret => obtain ⟨s, ρ1, F1, h1, h2⟩ := q; cases h2
  | panic c => obtain ⟨s, ρ1, F1, v, x, h1, h2, h3, h4, h5⟩ := q; cases h5
  | goto l => exact q.elim
  | outgrown => exact q.elim
theorem bIv : ∀ (av : List AVal) (h : List AObj) (x : cloCp.X) (y : cloCp.Y), cloCp.dec av h = some x → cloCp.spec x = some y → ∀ (ρ : List Value) (F L : Nat → Prop), RepH ρ F L h w → VRs ρ w F (Bx F L) av us.toList → Glo gl w F →
    CallsD Tryz.prog 138 us (.panicking [{ v := .iface 188 (.agg #[]), recovered := false }]) w fun e u' w' => settle u' = .returning ∧ ∃ ρ' F', yC (cloCp.out y).1 e ρ' w' F' (Bx F' L) ∧ RepH ρ' F' L (cloCp.out y).2 w' ∧ Stp w (Own ρ h) F w' (Own ρ' (cloCp.out y).2) F' ∧ PK ρ ρ' ∧ ∀ i ∈ cloCp.fix, ρ'[i]? = ρ[i]? := by
  rintro av h ⟨⟨_, _, _, _, _⟩, ⟨_, _⟩, ⟨_, _⟩, ⟨_, _, _, _, _, _⟩, ⟨_, _⟩, ⟨c, got, _, _, _⟩, d, _⟩ y hd hy ρ F L hR hv hg
  cases hy
  refine callsD_of_wpS (fn := Tryz.f138) (by kernel_rfl) (c := body Tryz.f138) (by kernel_rfl) (fun c₀ cs hu =>?_)
  rw [b25]
  obtain ⟨hn0, hI⟩ := lP (nt := Tryz.f138.ntmps) hd hR hv hg false
  refine wpS_seq (wpS_of_wp (wp_mono (bC hm GOk.nil bI hn0 C0 (.inl rfl) (aA (by kernel_rfl)) hI (bNf c got d)) (fun ex a w1 q =>?_)))
  cases ex with
  | normal =>
    obtain ⟨s, ρ1, F1, h1, h2⟩ := q
    simp only [cloK] at h2
    split at h2
    · rename_i hn
      obtain ⟨ρ2, F2, h3⟩ := kZ hn0 h1 hn h2
      have hsz : a.tmps.size = 23 := by
        have := h3.rep.tm.length
        rw [mB] at this
        exact (Array.length_toList (xs := a.tmps)) ▸ this.symm
      have hx : VR ρ2 w1 F2 (Bx F2 L) (.ifc 188 (.agg [])) (.iface 188 (.agg #[])) := by simp only [VR]; exact ⟨_, rfl, #[], rfl, by simp [VRs]⟩
      have h4 := (h3.put (some 11) hx).put (some 4) hx
      simp only [Exit.thenS]
      refine wpS_seq ?_
      simp only [C1, body, Tryz.f138, Option.getD, sqa, sqb]
      apply wpS_region
      simp [wpOpsS, go_sem, recoverD, hu, Exit.thenS, hsz]
      refine wpS_of_wp (wp_mono (bC hm GOk.nil bI hn0 C2 (.inl rfl) (aA (by kernel_rfl)) h4 (bNg c got d)) (fun ex a2 w2 q =>?_))
      cases ex with
      | normal =>
        obtain ⟨s5, ρ5, F5, h5, h6⟩ := q
        obtain ⟨ρ6, F6, h7, _⟩ := bV hn0 h5.rep h5.toInvH (vals := []) (us := []) (by simp [VRs]) h6
        exact ⟨h5.dfs, _, rfl, .tuple #[], by simp [results, Tryz.f138], rfl, ρ6, F6, ⟨_, rfl, by simp only [VR, pL, VhL.enc]; exact ⟨#[], rfl, by simp [VRs]⟩⟩, h7.h, h7.stp, h7.pk⟩
      | exit i => obtain ⟨s, ρ1, F1, h1, h2⟩ := q; cases h2
      | ret => obtain ⟨s, ρ1, F1, h1, h2⟩ := q; cases h2
      | panic c => obtain ⟨s, ρ1, F1, v, x, h1, h2, h3, h4, h5⟩ := q; cases h5
      | goto l => exact q.elim
      | outgrown => exact q.elim
    · cases h2
  | exit i => obtain ⟨s, ρ1, F1, h1, h2⟩ := q; cases h2
  | ret => obtain ⟨s, ρ1, F1, h1, h2⟩ := q; cases h2
  | panic c => obtain ⟨s, ρ1, F1, v, x, h1, h2, h3, h4, h5⟩ := q; cases h5
  | goto l => exact q.elim
  | outgrown => exact q.elim
end
abbrev X3 (c : Cfg) (got : List Int) (r : Res) (d : List Acc) : OShL os3 := ((), ((), ()), (r, ()), (true, ()), ((), ()), (c, got, (), (), ()), d, ())
abbrev X3p (c : Cfg) (got : List Int) (d : List Acc) : OShL os3p := ((), ((), ()), ((), (), (), (), (), ()), ((), ()), ((), ()), (c, got, (), (), ()), d, ())
abbrev pJ : List Vh := [.s (.e (.sl (.st .acc))), .s (.e (.st .res)), vb]
def bU (b : Nat) : Value := .pointer (some ⟨b, 0, none⟩)
abbrev aNj : List AVal := [.ptr 4 0, .ptr 1 0, .ptr 2 0, .ptr 3 0]
noncomputable abbrev endS (hp : List AObj) : St := { tm := Go.Ax.setT Tryz.f95.ntmps [(6, .ptr 1 0), (7, .ptr 2 0), (8, .ptr 3 0)], hp := hp }
section
variable {E E' : Ent} {ρ3 : List Value} {F3 : Nat → Prop} {w3 : World} {tmps : Array Value} {b6 b7 b8 b9 : Nat}
theorem bKs {stopped : Bool} {C : Con} {hp : List AObj} (hE : E.ρ.length = 0) (hD : E.D = []) (hL : E'.L = E.L) (hEE : Stp E.w E.O E.F E'.w E'.O E'.F) (hI : InvH gl E' hp w3 ρ3 F3)
    (k1 : ρ3[1]? = some (bU b6)) (k2 : ρ3[2]? = some (bU b7)) (k3 : ρ3[3]? = some (bU b8)) (k4 : ρ3[4]? = some (bU b9)) (t6 : tmps[6]? = some (bU b6)) (t7 : tmps[7]? = some (bU b7)) (t8 : tmps[8]? = some (bU b8)) (hsz : tmps.size = Tryz.f95.ntmps)
    (hC : ∀ (av : List AVal) (h : List AObj) (x : C.X) (y : C.Y), C.dec av h = some x → C.spec x = some y → ∀ (ρ : List Value) (F L : Nat → Prop), RepH ρ F L h w3 → VRs ρ w3 F (Bx F L) av (#[bU b9, bU b6, bU b7, bU b8] : Array Value).toList → Glo gl w3 F →
      CallsD Tryz.prog 138 #[bU b9, bU b6, bU b7, bU b8] (aIa stopped) w3 fun e u' w' => settle u' = .returning ∧ ∃ ρ' F', yC (C.out y).1 e ρ' w' F' (Bx F' L) ∧ RepH ρ' F' L (C.out y).2 w' ∧ Stp w3 (Own ρ h) F w' (Own ρ' (C.out y).2) F' ∧ PK ρ ρ' ∧ ∀ i ∈ C.fix, ρ'[i]? = ρ[i]?)
    {p : St × List Nat × C.X} (hp : prep C aNj { tm := [], hp := hp } = some p) {y : C.Y} (hy : C.spec p.2.2 = some y) (hlen : p.2.1.length ≤ (C.out y).2.length) (hret : ∃ v, (C.out y).1 = .ret v)
    {z : VhL pJ × OShL []} (hz : ((oE Tryz.prog (endS (after p.1 p.2.1 C.fix (C.out y).2).hp) Tryz.f95.results.toList).bind fun vals => dP 0 pJ [] vals (endS (after p.1 p.2.1 C.fix (C.out y).2).hp)) = some z) :
    Leaves Tryz.prog Tryz.f95 tmps (EndR gl E (.ret (pL (VhL.enc pJ z.1)), OShL.enc [] z.2)) [{ target := .fn (.func 138) #[bU b9, bU b6, bU b7, bU b8], args := #[] }] (aIa stopped) w3 := by
  refine leaves_cons (f := 138) (args := #[bU b9, bU b6, bU b7, bU b8]) (by cases stopped <;> simp [aIa]) (by simp [invoke, kY (⟨Tryz.f138, body Tryz.f138, by kernel_rfl, by kernel_rfl, by kernel_rfl⟩ : Callable Tryz.prog 138)]) ?_
  have hv : VRs ρ3 w3 F3 (Bx F3 E'.L) aNj (#[bU b9, bU b6, bU b7, bU b8] : Array Value).toList := by
    simp only [aNj, VRs, VR, and_true]
    exact ⟨⟨b9, k4, rfl⟩, ⟨b6, k1, rfl⟩, ⟨b7, k2, rfl⟩, b8, k3, rfl⟩
  refine (xC (W := fun R => CallsD Tryz.prog 138 #[bU b9, bU b6, bU b7, bU b8] (aIa stopped) w3 (fun e u' w' => settle u' = .returning ∧ R e w')) (fun R R' h hr => h.mono (fun e u' w' q => ⟨q.1, hr e w' q.2⟩)) hC hI.h.rep hI.glo hv hp hy hlen).mono ?_
  rintro e u' w4 ⟨hu, ρ4, F4, o1, o2, o3, o4, o5, o6⟩
  obtain ⟨v, hret⟩ := hret
  rw [hret] at o1
  obtain ⟨x, rfl, o1⟩ := o1
  dsimp only
  rw [hu]
  have hg4 : Glo gl w4 F4 := hI.glo.stp (s := { tm := [], hp := _ }) hI.h o3
  have hI4 : Inv gl E (endS (after p.1 p.2.1 C.fix (C.out y).2).hp) { tmps := tmps, defers := [] } w4 ρ4 F4 := by
    refine .of ⟨iF (by simpa using hsz) (fun q hq =>?_), ?_⟩ ?_ (fun n x hx =>?_) hg4 hD.symm
    · simp only [List.mem_cons, List.not_mem_nil, or_false] at hq
      rcases hq with rfl | rfl | rfl
      · simp only [VR]
        exact ⟨b6, o4 _ _ k1, by simp [List.getD_eq_getElem?_getD, t6, bU]⟩
      · simp only [VR]
        exact ⟨b7, o4 _ _ k2, by simp [List.getD_eq_getElem?_getD, t7, bU]⟩
      · simp only [VR]
        exact ⟨b8, o4 _ _ k3, by simp [List.getD_eq_getElem?_getD, t8, bU]⟩
    · rw [← hL]
      exact o2.h
    · exact hEE.trans (hI.stp.trans o3)
    · have := (List.getElem?_eq_some_iff.1 hx).1
      omega
  obtain ⟨_, v', h1, h2⟩ := oG (P := Tryz.prog) (fn := Tryz.f95) (res := Tryz.f95.results.toList) (by simp) hE hD hI4 hz
  exact ⟨v', h1, h2⟩
end
theorem bGe (c : Cfg) (got : List Int) (r : Res) (d : List Acc) : prep cloCr aNj { tm := [], hp := OShL.enc os3 (X3 c got r d) } = some ({ tm := [], hp := OShL.enc os3 (X3 c got r d) }, [4, 1, 2, 3, 5, 6], (((), (), (), (), ()), (((), ()), ((), ()), (r, ()), (true, ()), (c, got, (), (), ()), d, ()))) := by kernel_rfl
theorem bGf (c : Cfg) (got : List Int) (d : List Acc) : prep cloCp aNj { tm := [], hp := OShL.enc os3p (X3p c got d) } = some ({ tm := [], hp := OShL.enc os3p (X3p c got d) }, [4, 1, 2, 3, 5, 6], (((), (), (), (), ()), (((), ()), ((), ()), ((), (), (), (), (), ()), ((), ()), (c, got, (), (), ()), d, ()))) := by kernel_rfl
theorem bIw (c : Cfg) (got : List Int) (r : Res) (d : List Acc) : ((oE Tryz.prog (endS (after { tm := [], hp := OShL.enc os3 (X3 c got r d) } [4, 1, 2, 3, 5, 6] [] (OShL.enc cloO1 (wS c got d r true))).hp) Tryz.f95.results.toList).bind fun vals => dP 0 pJ [] vals (endS (after { tm := [], hp := OShL.enc os3 (X3 c got r d) } [4, 1, 2, 3, 5, 6] [] (OShL.enc cloO1 (wS c got d r true))).hp)) = some ((d, r, true, ()), ()) := by kernel_rfl
theorem bIx (c : Cfg) (got : List Int) (d : List Acc) : ((oE Tryz.prog (endS (after { tm := [], hp := OShL.enc os3p (X3p c got d) } [4, 1, 2, 3, 5, 6] [] (OShL.enc cloO1 (wS c got d rz false))).hp) Tryz.f95.results.toList).bind fun vals => dP 0 pJ [] vals (endS (after { tm := [], hp := OShL.enc os3p (X3p c got d) } [4, 1, 2, 3, 5, 6] [] (OShL.enc cloO1 (wS c got d rz false))).hp)) = some ((d, rz, false, ()), ()) := by kernel_rfl
theorem aAq : cO R3 = true ∧ cO R4 = true ∧ cO R5 = true ∧ cO R6 = true := ⟨by kernel_rfl, by kernel_rfl, by kernel_rfl, by kernel_rfl⟩
theorem bIy : aK Tryz.prog gl 95 (Con.of vs0 [] pJ [] runSp) := by
  rintro av h ⟨⟨c, o, got, _⟩, _⟩ y hd hy ρ F L w us hR hv hg
  obtain ⟨hn0, hI⟩ := lP (nt := Tryz.f95.ntmps) hd hR hv hg false
  refine (calls_of_wp_defers (fn := Tryz.f95) (by kernel_rfl) (c := body Tryz.f95) (by kernel_rfl) (R := EndR gl ⟨ρ, w, Own ρ h, F, L, [], false⟩ (.ret (pL (VhL.enc pJ y.1)), OShL.enc [] y.2)) ?_).mono ?_
  rotate_left
  · rintro e w' ⟨ρ', F', k1, k2⟩
    exact ⟨ρ', F', k1, k2.h, k2.stp, k2.pk, fun i hi => nomatch hi⟩
  rw [b21]
  have hz := bIr c o got
  simp only [exec] at hz
  refine wp_seq (wp_mono (bC hm GOk.nil bI hn0 R0 (.inl rfl) (aA (by kernel_rfl)) hI hz) (fun ex a1 w1 q =>?_))
  cases ex with
  | exit i => obtain ⟨s, ρ1, F1, h1, h2⟩ := q; cases h2
  | ret => obtain ⟨s, ρ1, F1, h1, h2⟩ := q; cases h2
  | panic c => obtain ⟨s, ρ1, F1, v, x, h1, h2, h3, h4, h5⟩ := q; cases h5
  | goto l => exact q.elim
  | outgrown => exact q.elim
  | normal =>
    obtain ⟨s1, ρ1, F1, h1, h2⟩ := q
    refine wp_seq (wp_mono (bC hm GOk.nil bI hn0 R1 (.inl rfl) (aA (by kernel_rfl)) h1 h2) (fun ex a2 w2 q =>?_))
    cases ex with
    | exit i => obtain ⟨s, ρ1, F1, h1, h2⟩ := q; cases h2
    | ret => obtain ⟨s, ρ1, F1, h1, h2⟩ := q; cases h2
    | panic c => obtain ⟨s, ρ1, F1, v, x, h1, h2, h3, h4, h5⟩ := q; cases h5
    | goto l => exact q.elim
    | outgrown => exact q.elim
    | normal =>
      obtain ⟨s2, ρ2, F2, h3, h4⟩ := q
      simp only [bKq] at h4
      split at h4
      case isFalse => cases h4
      rename_i hn
      obtain ⟨ρ3, F3, h5⟩ := kZ hn0 h3 hn h4
      have hdf := h5.dfs
      have hsz : a2.tmps.size = 27 := by
        have := h5.rep.tm.length
        rw [mB] at this
        exact (Array.length_toList (xs := a2.tmps)) ▸ this.symm
      have ht := fun t => h5.rep.tm.getD t undef
      have h6 := ht 6
      have h7 := ht 7
      have h8 := ht 8
      have h9 := ht 9
      have e6 : (Go.Ax.setT Tryz.f95.ntmps (([4, 6, 7, 8, 9] : List Nat).zip (VhL.enc vs1 (((), (), (), (), (), ()) : VhL vs1)))).getD 6 .any = .ptr 1 0 := by kernel_rfl
      have e7 : (Go.Ax.setT Tryz.f95.ntmps (([4, 6, 7, 8, 9] : List Nat).zip (VhL.enc vs1 (((), (), (), (), (), ()) : VhL vs1)))).getD 7 .any = .ptr 2 0 := by kernel_rfl
      have e8 : (Go.Ax.setT Tryz.f95.ntmps (([4, 6, 7, 8, 9] : List Nat).zip (VhL.enc vs1 (((), (), (), (), (), ()) : VhL vs1)))).getD 8 .any = .ptr 3 0 := by kernel_rfl
      have e9 : (Go.Ax.setT Tryz.f95.ntmps (([4, 6, 7, 8, 9] : List Nat).zip (VhL.enc vs1 (((), (), (), (), (), ()) : VhL vs1)))).getD 9 .any = .ptr 4 0 := by kernel_rfl
      dsimp only at h6 h7 h8 h9
      rw [e6] at h6
      rw [e7] at h7
      rw [e8] at h8
      rw [e9] at h9
      simp only [VR] at h6 h7 h8 h9
      obtain ⟨b6, k6, h6⟩ := h6
      obtain ⟨b7, k7, h7⟩ := h7
      obtain ⟨b8, k8, h8⟩ := h8
      obtain ⟨b9, k9, h9⟩ := h9
      have g6 : a2.tmps[6]? = some (bU b6) := by
        rw [List.getD_eq_getElem?_getD, Array.getElem?_toList] at h6
        rw [Array.getElem?_eq_getElem (by omega)] at h6 ⊢
        exact congrArg some h6
      have g7 : a2.tmps[7]? = some (bU b7) := by
        rw [List.getD_eq_getElem?_getD, Array.getElem?_toList] at h7
        rw [Array.getElem?_eq_getElem (by omega)] at h7 ⊢
        exact congrArg some h7
      have g8 : a2.tmps[8]? = some (bU b8) := by
        rw [List.getD_eq_getElem?_getD, Array.getElem?_toList] at h8
        rw [Array.getElem?_eq_getElem (by omega)] at h8 ⊢
        exact congrArg some h8
      have g9 : a2.tmps[9]? = some (bU b9) := by
        rw [List.getD_eq_getElem?_getD, Array.getElem?_toList] at h9
        rw [Array.getElem?_eq_getElem (by omega)] at h9 ⊢
        exact congrArg some h9
      simp only [Exit.then]
      refine wp_seq ?_
      have e2 : R2 = .region 2 #[{ dst := some 14, op := Op.makeFunc (Fn.func 138) #[] #[Operand.tmp 9, Operand.tmp 6, Operand.tmp 7, Operand.tmp 8], type := 1, pos := "code.go:477", after := #[], guard := none },
        { dst := none, op := Op.defer { callee := Callee.value (Operand.tmp 14), args := #[], argTypes := #[] }, type := 0, pos := "code.go:477", after := #[{ on := 0, ground := Ground.data }], guard := none }] false := by kernel_rfl
      rw [e2]
      have hmf : ∀ (fn : Fn) (first cap : Array Value) (w : World), (Instr.makeFunc fn first cap).run Tryz.prog w = .ok (.func fn first cap) w := fun _ _ _ _ => rfl
      have q6 := (Array.getElem?_eq_some_iff.1 g6).2
      have q7 := (Array.getElem?_eq_some_iff.1 g7).2
      have q8 := (Array.getElem?_eq_some_iff.1 g8).2
      have q9 := (Array.getElem?_eq_some_iff.1 g9).2
      refine wp_region_list ?_
      simp [wpList, Oper.wp, go_sem, Region.wanted, execOp, hmf, q6, q7, q8, q9, hsz, Oper.upon]
      refine .inl (.inl ?_)
      -- what is done meanwhile is deferred
      have hD : a2.defers = [] := hdf
      rw [hD]
      let dd : Deferred := { target := Target.fn (Fn.func 138) #[bU b9, bU b6, bU b7, bU b8], args := #[] }
      let E' : Ent := ⟨ρ3, w2, Own ρ3 (runS c o got).hp, F3, L, [dd], true⟩
      have hI' : Inv gl E' (runS c o got) { tmps := a2.tmps.setIfInBounds 14 (Value.func (Fn.func 138) #[] #[bU b9, bU b6, bU b7, bU b8]), defers := [dd] } w2 ρ3 F3 := by
        have hp := h5.put (some 14) (x := .any) (v := Value.func (Fn.func 138) #[] #[bU b9, bU b6, bU b7, bU b8]) (by simp [VR])
        have es : (St.put { tm := Go.Ax.setT Tryz.f95.ntmps (([4, 6, 7, 8, 9] : List Nat).zip (VhL.enc vs1 (((), (), (), (), (), ()) : VhL vs1))), hp := OShL.enc os1 (((o, ()), ([], ()), (rz, ()), (false, ()), ((), ()), (c, got, (), [], ()), [], ()) : OShL os1) } (some 14) .any) = runS c o got := by kernel_rfl
        rw [es] at hp
        exact .of ⟨hp.rep.tm, hp.h⟩ (.refl _ _ _) (.refl _) hp.glo rfl
      have hn7 : E'.ρ.length = 7 := hI'.h.len
      have hL3 : Stp w (Own ρ h) F E'.w E'.O E'.F := h5.stp
      have hrt := bGc c o got
      have hn27 : ∀ {a : Act} {s : St} {w : World} {ρ : List Value} {F : Nat → Prop}, VRs ρ w F (Bx F L) s.tm a.tmps.toList → s.tm.length = Tryz.f95.ntmps → a.tmps.size = Tryz.f95.ntmps := fun h1 h2 => by
        have := h1.length
        rw [h2] at this
        simpa using this.symm
      have t3 : ∀ {a : Act} {w : World} {ρ4 : List Value} {F : Nat → Prop}, a.tmps.size = Tryz.f95.ntmps → PK ρ3 ρ4 → VRs ρ4 w F (Bx F L) (VhL.enc V3 (((), (), (), ()) : VhL V3)) (([6, 7, 8] : List Nat).map fun t => a.tmps.toList.getD t undef) →
          a.tmps[6]? = some (bU b6) ∧ a.tmps[7]? = some (bU b7) ∧ a.tmps[8]? = some (bU b8) := fun {a w ρ4 F} hs hk hv => by
        have hs' : a.tmps.size = 27 := hs
        simp only [VhL.enc, Vh.enc, Sh.enc, List.map_cons, List.map_nil, VRs, VR, and_true] at hv
        obtain ⟨⟨c6, j6, i6⟩, ⟨c7, j7, i7⟩, c8, j8, i8⟩ := hv
        have e6 := hk _ _ k6
        have e7 := hk _ _ k7
        have e8 := hk _ _ k8
        rw [j6] at e6
        rw [j7] at e7
        rw [j8] at e8
        cases e6
        cases e7
        cases e8
        refine ⟨?_, ?_, ?_⟩
        · rw [List.getD_eq_getElem?_getD, Array.getElem?_toList, Array.getElem?_eq_getElem (by omega)] at i6
          rw [Array.getElem?_eq_getElem (by omega)]
          exact congrArg some i6
        · rw [List.getD_eq_getElem?_getD, Array.getElem?_toList, Array.getElem?_eq_getElem (by omega)] at i7
          rw [Array.getElem?_eq_getElem (by omega)]
          exact congrArg some i7
        · rw [List.getD_eq_getElem?_getD, Array.getElem?_toList, Array.getElem?_eq_getElem (by omega)] at i8
          rw [Array.getElem?_eq_getElem (by omega)]
          exact congrArg some i8
      have main : ∀ z, exec Tryz.prog gl kd runG 7 plan [] [] runC (runS c o got) vA = some z → (∀ ex a w', ex ≠ .normal → QK gl E' (fun e s => vA e s = some z) ex a w' → bodyPostD Tryz.prog Tryz.f95 (EndR gl ⟨ρ, w, Own ρ h, F, L, [], false⟩ (.ret (pL (VhL.enc pJ y.1)), OShL.enc [] y.2)) ex a w') →
          (∀ s a w' ρ' F', Inv gl E' s a w' ρ' F' → vA .normal s = some z → R7.wp Tryz.prog (bodyPostD Tryz.prog Tryz.f95 (EndR gl ⟨ρ, w, Own ρ h, F, L, [], false⟩ (.ret (pL (VhL.enc pJ y.1)), OShL.enc [] y.2))) a w') →
          Code.wp Tryz.prog (R3.seq (R4.seq (R5.seq (R6.seq R7)))) (bodyPostD Tryz.prog Tryz.f95 (EndR gl ⟨ρ, w, Own ρ h, F, L, [], false⟩ (.ret (pL (VhL.enc pJ y.1)), OShL.enc [] y.2))) { tmps := a2.tmps.setIfInBounds 14 (Value.func (Fn.func 138) #[] #[bU b9, bU b6, bU b7, bU b8]), defers := [dd] } w2 := fun z hz hQ hN => by
        refine vW hm aAp bI hn7 (aA (by kernel_rfl)) (.inr aAq.1) hI' hz (fun s a w ρ F hI hz =>?_) hQ
        refine vW hm aAp bI hn7 (aA (by kernel_rfl)) (.inr aAq.2.1) hI hz (fun s a w ρ F hI hz =>?_) hQ
        refine vW hm aAp bI hn7 (aA (by kernel_rfl)) (.inr aAq.2.2.1) hI hz (fun s a w ρ F hI hz =>?_) hQ
        refine wp_seq (wp_mono (bC hm aAp bI hn7 R6 (.inr aAq.2.2.2) (aA (by kernel_rfl)) hI hz) (fun ex a w q =>?_))
        cases ex with
        | normal => obtain ⟨s, ρ1, F1, h1, h2⟩ := q; exact hN _ _ _ _ _ h1 h2
        | exit i => exact hQ _ _ _ (by simp) q
        | ret => exact hQ _ _ _ (by simp) q
        | panic c => exact hQ _ _ _ (by simp) q
        | goto l => exact hQ _ _ _ (by simp) q
        | outgrown => exact hQ _ _ _ (by simp) q
      cases hX : (nV c o got).exec got [] with
      | bot => simp [runSp, hX] at hy
      | ok r d =>
        rw [hX] at hrt
        simp only [pT] at hrt
        have hy' : y = ((d, r, true, ()), ()) := by
          simp [runSp, hX] at hy
          exact hy.symm
        subst hy'
        refine main _ hrt (fun ex a w' hne q =>?_) (fun s a w4 ρ4 F4 i1 i2 =>?_)
        · cases ex with
          | normal => exact absurd rfl hne
          | exit i => obtain ⟨s, ρ1, F1, h1, h2⟩ := q; cases h2
          | ret => obtain ⟨s, ρ1, F1, h1, h2⟩ := q; cases h2
          | panic ch =>
            obtain ⟨s, ρ4, F4, v, x, i1, i2, i3, i4, i5⟩ := q
            exfalso
            unfold vA at i5
            split at i5
            · rename_i e; cases e
            · split at i5
              · obtain ⟨_, _, i6⟩ := Option.map_eq_some_iff.1 i5; cases i6
              · cases i5
            · cases i5
          | goto l => exact q.elim
          | outgrown => exact q.elim
        · simp only [vA] at i2
          split at i2
          case isFalse => cases i2
          rename_i hn4
          obtain ⟨x4, i3, i4⟩ := Option.map_eq_some_iff.1 i2
          cases i4
          obtain ⟨ρ5, F5, i5⟩ := kZ hn7 i1 hn4 i3
          refine wp_mono (bC hm GOk.nil bI (E := { E' with full := false }) hn7 R7 (.inl rfl) (aA (by kernel_rfl)) (i5.flag false) (bIs c got r d)) (fun ex a5 w5 q =>?_)
          cases ex with
          | normal => obtain ⟨s, ρ1, F1, h1, h2⟩ := q; cases h2
          | exit i => obtain ⟨s, ρ1, F1, h1, h2⟩ := q; cases h2
          | ret =>
            obtain ⟨s6, ρ6, F6, h1, h2⟩ := q
            simp only [bKr] at h2
            split at h2
            case isFalse => cases h2
            rename_i hn6
            obtain ⟨ρ7, F7, m1, m2⟩ := bV (E := { E' with full := false }) hn7 h1.rep h1.toInvH (vV h1 [6, 7, 8]) h2
            have hz7 := hn27 h1.rep.tm hn6
            obtain ⟨z6, z7, z8⟩ := t3 hz7 m1.pk m2
            show Leaves _ _ _ _ _ _ _
            rw [show a5.defers = [dd] from h1.dfs]
            exact bKs (stopped := false) (E := ⟨ρ, w, Own ρ h, F, L, [], false⟩) (E' := { E' with full := false }) (C := cloCr) hn0 rfl rfl hL3 m1 (m1.pk _ _ k6) (m1.pk _ _ k7) (m1.pk _ _ k8) (m1.pk _ _ k9) z6 z7 z8 hz7 bIu (bGe c got r d) rfl (Nat.le_refl 6) ⟨_, rfl⟩ (bIw c got r d)
          | panic c => obtain ⟨s, ρ1, F1, v, x, h1, h2, h3, h4, h5⟩ := q; cases h5
          | goto l => exact q.elim
          | outgrown => exact q.elim
      | stop d =>
        rw [hX] at hrt
        simp only [pT] at hrt
        have hy' : y = ((d, rz, false, ()), ()) := by
          simp [runSp, hX] at hy
          exact hy.symm
        subst hy'
        refine main _ hrt (fun ex a w' hne q =>?_) (fun s a w4 ρ4 F4 i1 i2 =>?_)
        · cases ex with
          | normal => exact absurd rfl hne
          | exit i => obtain ⟨s, ρ1, F1, h1, h2⟩ := q; cases h2
          | ret => obtain ⟨s, ρ1, F1, h1, h2⟩ := q; cases h2
          | panic ch =>
            obtain ⟨s, ρ4, F4, v, x, i1, i2, i3, i4, i5⟩ := q
            unfold vA at i5
            split at i5
            · rename_i e; cases e
            · rename_i t e
              cases e
              split at i5
              case isFalse => cases i5
              rename_i ht
              obtain ⟨ht, hn4⟩ := ht
              subst ht
              obtain ⟨x4, i6, i7⟩ := Option.map_eq_some_iff.1 i5
              cases i7
              have htm := i2.2 rfl
              have hz7 := hn27 htm hn4
              have hI4 : Inv gl E' s a w' ρ4 F4 := .of ⟨htm, i2.1.h⟩ i2.1.stp i2.1.pk i2.1.glo i1
              obtain ⟨ρ7, F7, m1, m2⟩ := bV hn7 hI4.rep hI4.toInvH (vV hI4 [6, 7, 8]) i6
              obtain ⟨z6, z7, z8⟩ := t3 hz7 m1.pk m2
              simp only [VR] at i4
              obtain ⟨u, rfl, cs, rfl, i4⟩ := i4
              have hcs : cs = #[] := by
                have := i4.length
                simp at this
                exact Array.eq_empty_of_size_eq_zero this.symm
              subst hcs
              subst i3
              show Leaves _ _ _ _ _ _ _
              rw [show a.defers = [dd] from i1]
              exact bKs (stopped := true) (E := ⟨ρ, w, Own ρ h, F, L, [], false⟩) (E' := E') (C := cloCp) hn0 rfl rfl hL3 m1 (m1.pk _ _ k6) (m1.pk _ _ k7) (m1.pk _ _ k8) (m1.pk _ _ k9) z6 z7 z8 hz7 bIv (bGf c got d) rfl (Nat.le_refl 6) ⟨_, rfl⟩ (bIx c got d)
            · cases i5
          | goto l => exact q.elim
          | outgrown => exact q.elim
        · simp only [vA] at i2
          split at i2
          case isFalse => cases i2
          obtain ⟨x4, i3, i4⟩ := Option.map_eq_some_iff.1 i2
          cases i4
def goTr (c : Cfg) (o : Opn) (got : List Int) : T (List Acc × Res × Bool) := match (nV c o got).exec got [] with
  | .ok r d => .ret (d, r, true)
  | .stop d => .ret (d, rz, false)
  | .bot => .bot
@[reducible] def runI : PIf (VhL vs0 × OShL []) (VhL pJ × OShL []) where
  α := List Acc × Res × Bool
  tr x := goTr x.1.1 x.1.2.1 x.1.2.2.1
  enc _ a := ((a.1, a.2.1, a.2.2, ()), ())
theorem bLy : aK Tryz.prog gl 95 (Con.of vs0 [] pJ [] (PIf.spec runI)) := by
  have h : PIf.spec runI = runSp := by
    funext x
    unfold PIf.spec runSp
    simp only [runI, goTr, T.val]
    cases (nV x.1.1 x.1.2.1 x.1.2.2.1).exec x.1.2.2.1 [] <;> rfl
  rw [h]
  exact bIy
def vB (c : Cfg) (o : Opn) (got : List Int) : T (Acc × Res × Bool) :=
 (goTr c o got).bind fun x0 =>
 bif x0.2.2 then
 .ret (Acc.mk 0 0 0 0 0 0, x0.2.1, true)
 else
 bif inR (w64 (Int.ofNat x0.1.length - 1)) x0.1.length then
 .ret (rdE (EK.st SN.acc) x0.1 (w64 (Int.ofNat x0.1.length - 1)), Res.mk 0 0 [] [] [], false)
 else
 .bot
@[reducible] def bLz : PIf (VhL [.s (.e (.st .cfg)), .s (.e (.st .opn)), .s (.e (.sl .int))] × OShL []) (VhL [.s (.e (.st .acc)), .s (.e (.st .res)), vb] × OShL []) where
 α := Acc × Res × Bool
 tr x := vB x.1.1 x.1.2.1 x.1.2.2.1
 enc x a := ((a.1, a.2.1, a.2.2, ()), ())
abbrev next__T : Type := VhL [.s (.e (.st .cfg)), .s (.e (.st .opn)), .s (.e (.sl .int))] × OShL [] → Option (VhL [.s (.e (.st .acc)), .s (.e (.st .res)), vb] × OShL [])
noncomputable abbrev bIz (sp : next__T) : Con := Con.of [.s (.e (.st .cfg)), .s (.e (.st .opn)), .s (.e (.sl .int))] [] [.s (.e (.st .acc)), .s (.e (.st .res)), vb] [] sp
noncomputable abbrev bGg : next__T := PIf.spec bLz
theorem bAi (p0 : VhL [.s (.e (.st .cfg)), .s (.e (.st .opn)), .s (.e (.sl .int))] × OShL [] → Option (VhL [.s (.e (.sl (.st .acc))), .s (.e (.st .res)), vb] × OShL [])) (c : Cfg) (o : Opn) (got : List Int) : runN Tryz.f59 [.s (.e (.st .cfg)), .s (.e (.st .opn)), .s (.e (.sl .int))] [] [.s (.e (.st .acc)), .s (.e (.st .res)), vb] [] [(95, Con.of [.s (.e (.st .cfg)), .s (.e (.st .opn)), .s (.e (.sl .int))] [] [.s (.e (.sl (.st .acc))), .s (.e (.st .res)), vb] [] p0)] [] [] (((c, o, got, ()), ()) : VhL [.s (.e (.st .cfg)), .s (.e (.st .opn)), .s (.e (.sl .int))] × OShL []) = ((p0 ((c, o, got, ()), ())).bind fun z => bif z.1.2.2.1 then some ((Acc.mk 0 0 0 0 0 0, z.1.2.1, true, ()), ()) else bif inR (w64 (Int.ofNat (List.length z.1.1) - 1)) (List.length z.1.1) then some ((rdE (EK.st SN.acc) z.1.1 (w64 (Int.ofNat (List.length z.1.1) - 1)), Res.mk 0 0 [] [] [], false, ()), ()) else none) := by kernel_rfl
theorem bGh : aK Tryz.prog gl 59 (bIz bGg) := by
 refine cnk (fn := Tryz.f59) (G := [(95, Con.of [.s (.e (.st .cfg)), .s (.e (.st .opn)), .s (.e (.sl .int))] [] [.s (.e (.sl (.st .acc))), .s (.e (.st .res)), vb] [] (PIf.spec runI))]) (GOk.cons ⟨Tryz.f95, body Tryz.f95, by kernel_rfl, by kernel_rfl, by kernel_rfl⟩ bLy (GOk.nil)) (by kernel_rfl) (by kernel_rfl) (Lc := []) (nh := []) (aA (by kernel_rfl)) ?_
 rintro ⟨⟨c, o, got, _⟩, _⟩
 refine (bAi ..).trans ?_
 show _ = ((vB c o got).val).map _
 unfold vB
 repeat' (first|refine aP (fun _ =>?_) (fun _ =>?_)|(refine cD (fun _ =>?_); try dsimp only [aH, cond_true, cond_false, Bool.not_true, Bool.not_false, one, none1, mI, runI]) | rfl)
open Go.Proofs Go.Shelf
noncomputable abbrev groE (n : Nat) (f : Func) (k : EK) : Fe := ⟨n, f, [.s .nil, vi], [], [.s (.own 0)], [.arr k]⟩
noncomputable def groN (n : Nat) (f : Func) (k : EK) : (groE n f k).T := fun x => bif decide (0 ≤ x.1.2.1) && decide (x.1.2.1 ≤ 1000000000) then some (((), ()), ([], ())) else none
theorem aFt (z : Array Value) (n : Nat) : (Builtin.zeroCells z n).size = n * z.size := by simp [Builtin.zeroCells]
theorem bKt {ρr : Ren} (Lr : Lays8.n4 Tryz.prog ρr) {i0 : TypeInfo} {z : Value} {k : EK} {f : Func} (hi0 : (Tryz.prog : Program).info? (ρr.t 25) = some i0) (hz0 : i0.zero = some z) (hs : i0.size = k.sz) (hzs : z.cells.size = k.sz) (h0 : 0 < k.sz) (hby : i0.bytes ≤ 1000) :
  aK Tryz.prog gl (ρr.f 4) (Con.of [.s .nil, vi] [] [.s (.own 0)] [.arr k] (groN (ρr.f 4) f k)) := by
 rintro av h ⟨⟨_, (m : Int), _⟩, _⟩ y hd hy ρ F L w us hR hv hg
 obtain ⟨x1, k1, hd⟩ := Option.bind_eq_some_iff.1 hd
 obtain ⟨x2, k2, hd⟩ := Option.bind_eq_some_iff.1 hd
 cases hd
 have hvs := VhL.sound k1 hv
 obtain ⟨us, rfl⟩ : ∃ u : List Value, us = u.toArray := ⟨us.toList, by simp⟩
 have hl := hvs.length
 match us, hl, hvs with
 | [u0, u1], _, hvs =>
  have hvv : u0 = .slice none 0 0 ∧ u1 = .int .i64 m := by
   have : VRs ρ w F (Bx F L) [.con (.slice none 0 0), .int m] [u0, u1] := hvs
   simpa only [VRs, VR, and_true] using this
  obtain ⟨rfl, rfl⟩ := hvv
  have hy2 : (bif decide (0 ≤ m) && decide (m ≤ 1000000000) then some ((((), ()), ([], ())) : VhL [.s (.own 0)] × OShL [.arr k]) else none) = some y := hy
  have hm : 0 ≤ m ∧ m ≤ 1000000000 := by
   cases e : (decide (0 ≤ m) && decide (m ≤ 1000000000)) with
   | true => simpa using e
   | false => rw [e] at hy2; cases hy2
  rw [decide_eq_true hm.1, decide_eq_true hm.2] at hy2
  obtain rfl : _ = y := Option.some.inj hy2
  have hnil : h = [] := by
   cases h with
   | nil => rfl
   | cons a l => cases k2
  subst hnil
  obtain ⟨q, rfl⟩ : ∃ q : Nat, m = q := ⟨m.toNat, by omega⟩
  have hlen : ρ.length = 0 := hR.len
  have fin : ∀ (w' : World) (v : Value), Ch w w' (fun _ => False) → OR ρ w' F (Bx F L) v (.arr k []) → (∀ b, blk v = some b → w.heap.size ≤ b) → (∃ A l c, v = .slice A l c) →
    ∃ ρ' F', yC (.ret (.own 0)) (.returned v) ρ' w' F' (Bx F' L) ∧ RepH ρ' F' L [.arr k []] w' ∧ Stp w (Own ρ []) F w' (Own ρ' [.arr k []]) F' ∧ PK ρ ρ' ∧ ∀ i ∈ ([] : List Nat), ρ'[i]? = ρ[i]? := fun w' v hc ho hb hsl => by
   have h1 := (hR.rep.new (o := .arr k []) (v := v) hc ho hb).h
   refine ⟨ρ ++ [v], F, ⟨v, rfl, ?_⟩, h1, (Stp.refl w (Own ρ []) F).new (hp := []) hlen hc hb, fun n x hx =>?_, fun i hi => (by cases hi)⟩
   ·simp only [VR]
    obtain ⟨A, l, c, rfl⟩ := hsl
    exact ⟨by rw [List.getElem?_append_right (by omega), hlen]; rfl, A, l, c, rfl⟩
   ·rw [List.getElem?_append_left (List.getElem?_eq_some_iff.1 hx).1]
    exact hx
  by_cases c : q = 0
  ·subst c
   refine (Any8.slices_Grow_room Lr none 0 0 0 w (by omega) (by omega) (by omega) (by omega)).mono ?_
   rintro e w' ⟨rfl, rfl⟩
   exact fin w' _ (Ch.refl _ _) (.inl ⟨rfl, rfl⟩) (fun b hb => by simp [blk] at hb) ⟨_, _, _, rfl⟩
  ·have hb2 : (0 + q) * i0.bytes ≤ 1000000000 * 1000 := Nat.mul_le_mul (by omega) hby
   refine (Any8.slices_Grow_grow Lr i0 z hi0 hz0 (by omega) none 0 0 q [] w (by omega) (by omega) (by omega) (by omega) (by simp) (fun _ => rfl) (fun a ha => by cases ha)).mono ?_
   rintro e w' ⟨rfl, rfl⟩
   have hcap := grownCap_ge w (0 + q) 0 (ρr.t 25)
   refine fin _ _ ⟨rfl, rfl, rfl, by simp, fun b hb _ =>?_⟩ (.inr ⟨w.heap.size, grownCap w (0 + q) 0 (ρr.t 25), #[] ++ Builtin.zeroCells z.cells (0 + q - 0) ++ Builtin.zeroCells z.cells (grownCap w (0 + q) 0 (ρr.t 25) - (0 + q)), ρr.t 25, fun _ => [], rfl, ?_, by simp, ?_, (fun i hi => by cases hi), (fun i j v hi => by cases hi)⟩) (fun b hb =>?_) ⟨_, _, _, rfl⟩
   ·exact (Ch.alloc w.drew _ (fun _ => False)).block b hb (fun h => h)
   ·exact heap_alloc_new w.drew _
   ·rw [Array.size_append, Array.size_append, aFt, aFt, hzs, Array.size_empty, Nat.zero_add, ← Nat.add_mul]
    generalize grownCap w (0 + q) 0 (ρr.t 25) = g at *
    have e : q - 0 + (g - q) = g := by omega
    simp only [Nat.zero_add] at *
    rw [e]
   ·simp only [blk, Option.some.injEq] at hb
    omega
noncomputable abbrev groOE : Fe := groE 101 Tryz.f101 (.st .opn)
noncomputable abbrev groON : groOE.T := groN 101 Tryz.f101 (.st .opn)
theorem groO_ok : groOE.Ok groON := ⟨⟨Tryz.f101, body Tryz.f101, by kernel_rfl, by kernel_rfl, by kernel_rfl⟩, bKt (f := Tryz.f101) (ρr := Tryz.growO_ren) Tryz.growO (i0 := ((Tryz.prog : Program).info? (Tryz.growO_ren.t 25)).getD default) (z := ((((Tryz.prog : Program).info? (Tryz.growO_ren.t 25)).getD default).zero).getD default) (by kernel_rfl) (by kernel_rfl) (by kernel_rfl) (by kernel_rfl) (of_decide_eq_true (by kernel_rfl)) (of_decide_eq_true (by kernel_rfl))⟩
noncomputable abbrev groTE : Fe := groE 107 Tryz.f107 (.st .tou)
noncomputable abbrev groTN : groTE.T := groN 107 Tryz.f107 (.st .tou)
theorem groT_ok : groTE.Ok groTN := ⟨⟨Tryz.f107, body Tryz.f107, by kernel_rfl, by kernel_rfl, by kernel_rfl⟩, bKt (f := Tryz.f107) (ρr := Tryz.growT_ren) Tryz.growT (i0 := ((Tryz.prog : Program).info? (Tryz.growT_ren.t 25)).getD default) (z := ((((Tryz.prog : Program).info? (Tryz.growT_ren.t 25)).getD default).zero).getD default) (by kernel_rfl) (by kernel_rfl) (by kernel_rfl) (by kernel_rfl) (of_decide_eq_true (by kernel_rfl)) (of_decide_eq_true (by kernel_rfl))⟩

noncomputable abbrev catOL1E : Le := ⟨0, Tryz.f68, 1, [6, 25, 26, 27], [.s (.own 0), .s (.e (.sl (.sl (.st .opn)))), vi, vi], [.arr (.st .opn)], (Fin.one 0 Tryz.f68.ntmps (.exit 2) [6] [.s (.own 0)] [.arr (.st .opn)])⟩
noncomputable def oZ (v1 : List (List Opn)) (v2 v3 : Int) (v4 : List Opn) : Option (catOL1E.X ⊕ catOL1E.fin.Y) := bif decide (v3 < v2) then bif inR v3 v1.length then bif decide (v4.length + List.length (rdE (EK.st SN.opn).sl v1 v3) ≤ 1000000000) then some (Sum.inl (((), v1, v2, w64 (v3 + 1), ()), v4 ++ rdE (EK.st SN.opn).sl v1 v3, ())) else none else none else some (Sum.inr (((), ()), v4, ()))
noncomputable def catOL1N : catOL1E.T := catOL1E.lp (catOL1E.un (oZ))
theorem aTc (x) : catOL1E.run [] [] [] x = catOL1E.un (oZ) x := by kernel_rfl
theorem bAj : catOL1E.Ok catOL1N := Le.k f1 g0 (aA (by kernel_rfl)) (aTc)
noncomputable abbrev catOL0E : Le := ⟨0, Tryz.f68, 0, [0, 3, 9, 10, 11], [.s (.e (.sl (.sl (.st .opn)))), vi, .s (.e (.sl (.sl (.st .opn)))), vi, vi], [], (Fin.one 0 Tryz.f68.ntmps (.exit 0) [0, 3] [.s (.e (.sl (.sl (.st .opn)))), vi] [])⟩
noncomputable def pA (v0 : List (List Opn)) (v1 : Int) (v2 : List (List Opn)) (v3 v4 : Int) : Option (catOL0E.X ⊕ catOL0E.fin.Y) := bif decide (v4 < v3) then bif inR v4 v2.length then bif decide (w64 (v1 + Int.ofNat (List.length (rdE (EK.st SN.opn).sl v2 v4))) < 0) then none else some (Sum.inl ((v0, w64 (v1 + Int.ofNat (List.length (rdE (EK.st SN.opn).sl v2 v4))), v2, v3, w64 (v4 + 1), ()), ())) else none else some (Sum.inr ((v0, v1, ()), ()))
noncomputable def catOL0N : catOL0E.T := catOL0E.lp (catOL0E.un (pA))
theorem aTd (x) : catOL0E.run [] [] [] x = catOL0E.un (pA) x := by kernel_rfl
theorem bAk : catOL0E.Ok catOL0N := Le.k f1 g0 (aA (by kernel_rfl)) (aTd)
noncomputable abbrev catOE : Fe := ⟨68, Tryz.f68, [.s (.e (.sl (.sl (.st .opn))))], [], [.s (.e (.sl (.st .opn)))], []⟩
noncomputable def aWb (p0 : groOE.T) (p1 : catOL0E.T) (p2 : catOL1E.T) (l : List (List Opn)) : Option catOE.Y := (p1 ((l, 0, l, Int.ofNat l.length, 0, ()), ())).bind fun z => (p0 (((), z.1.2.1, ()), ())).bind fun z1 => (p2 (((), z.1.1, Int.ofNat (List.length z.1.1), 0, ()), z1.2.1, ())).bind fun z => some ((z.2.1, ()), ())
noncomputable def catON : catOE.T := catOE.un (aWb groON catOL0N catOL1N)
theorem bGi (p0 : groOE.T) (p1 : catOL0E.T) (p2 : catOL1E.T) (x) : catOE.run [groOE.on p0] [(3, catOL0E.on p1), (11, catOL1E.on p2)] [] x = catOE.un (aWb p0 p1 p2) x := by kernel_rfl
theorem catO_ok : catOE.Ok catON := Fe.k (by kernel_rfl) (groO_ok.k g0) (bD (by kernel_rfl) (lsc (by kernel_rfl) bAk rfl (lsc (by kernel_rfl) bAj rfl lsn))) (bGi groON catOL0N catOL1N)
noncomputable abbrev catTL1E : Le := ⟨0, Tryz.f75, 1, [6, 25, 26, 27], [.s (.own 0), .s (.e (.sl (.sl (.st .tou)))), vi, vi], [.arr (.st .tou)], (Fin.one 0 Tryz.f75.ntmps (.exit 2) [6] [.s (.own 0)] [.arr (.st .tou)])⟩
noncomputable def pB (v1 : List (List Tou)) (v2 v3 : Int) (v4 : List Tou) : Option (catTL1E.X ⊕ catTL1E.fin.Y) := bif decide (v3 < v2) then bif inR v3 v1.length then bif decide (v4.length + List.length (rdE (EK.st SN.tou).sl v1 v3) ≤ 1000000000) then some (Sum.inl (((), v1, v2, w64 (v3 + 1), ()), v4 ++ rdE (EK.st SN.tou).sl v1 v3, ())) else none else none else some (Sum.inr (((), ()), v4, ()))
noncomputable def catTL1N : catTL1E.T := catTL1E.lp (catTL1E.un (pB))
theorem aTe (x) : catTL1E.run [] [] [] x = catTL1E.un (pB) x := by kernel_rfl
theorem bAl : catTL1E.Ok catTL1N := Le.k f1 g0 (aA (by kernel_rfl)) (aTe)
noncomputable abbrev catTL0E : Le := ⟨0, Tryz.f75, 0, [0, 3, 9, 10, 11], [.s (.e (.sl (.sl (.st .tou)))), vi, .s (.e (.sl (.sl (.st .tou)))), vi, vi], [], (Fin.one 0 Tryz.f75.ntmps (.exit 0) [0, 3] [.s (.e (.sl (.sl (.st .tou)))), vi] [])⟩
noncomputable def pC (v0 : List (List Tou)) (v1 : Int) (v2 : List (List Tou)) (v3 v4 : Int) : Option (catTL0E.X ⊕ catTL0E.fin.Y) := bif decide (v4 < v3) then bif inR v4 v2.length then bif decide (w64 (v1 + Int.ofNat (List.length (rdE (EK.st SN.tou).sl v2 v4))) < 0) then none else some (Sum.inl ((v0, w64 (v1 + Int.ofNat (List.length (rdE (EK.st SN.tou).sl v2 v4))), v2, v3, w64 (v4 + 1), ()), ())) else none else some (Sum.inr ((v0, v1, ()), ()))
noncomputable def catTL0N : catTL0E.T := catTL0E.lp (catTL0E.un (pC))
theorem aTf (x) : catTL0E.run [] [] [] x = catTL0E.un (pC) x := by kernel_rfl
theorem bAm : catTL0E.Ok catTL0N := Le.k f1 g0 (aA (by kernel_rfl)) (aTf)
noncomputable abbrev catTE : Fe := ⟨75, Tryz.f75, [.s (.e (.sl (.sl (.st .tou))))], [], [.s (.e (.sl (.st .tou)))], []⟩
noncomputable def aWc (p0 : groTE.T) (p1 : catTL0E.T) (p2 : catTL1E.T) (l : List (List Tou)) : Option catTE.Y := (p1 ((l, 0, l, Int.ofNat l.length, 0, ()), ())).bind fun z => (p0 (((), z.1.2.1, ()), ())).bind fun z1 => (p2 (((), z.1.1, Int.ofNat (List.length z.1.1), 0, ()), z1.2.1, ())).bind fun z => some ((z.2.1, ()), ())
noncomputable def catTN : catTE.T := catTE.un (aWc groTN catTL0N catTL1N)
theorem bGj (p0 : groTE.T) (p1 : catTL0E.T) (p2 : catTL1E.T) (x) : catTE.run [groTE.on p0] [(3, catTL0E.on p1), (11, catTL1E.on p2)] [] x = catTE.un (aWc p0 p1 p2) x := by kernel_rfl
theorem catT_ok : catTE.Ok catTN := Fe.k (by kernel_rfl) (groT_ok.k g0) (bD (by kernel_rfl) (lsc (by kernel_rfl) bAm rfl (lsc (by kernel_rfl) bAl rfl lsn))) (bGj groTN catTL0N catTL1N)
end Go.Ax.Cd
