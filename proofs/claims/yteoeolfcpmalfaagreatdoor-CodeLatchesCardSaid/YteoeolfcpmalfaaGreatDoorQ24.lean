/- The package code by contracts (printed by wip/tools/con3.py). -/
import Derived.Test.YteoeolfcpmalfaaGreatDoorQ23
import Derived.Test.YteoeolfcpmalfaaGreatDoorQ21
namespace Go.Ax.Cd
open Go.Proofs
set_option linter.unusedVariables false
set_option maxRecDepth 100000
abbrev cdw3q0 : List OSh := [.arr (.st .en)]
abbrev stabVEnL2vs : List Vh := [.s (.ownC 0), vi, .clo 98 [], vi, vi, vi]
abbrev stabVEnL2os : List OSh := cdw3q0
noncomputable abbrev stabVEnL2fin : Fin := (Fin.one 1 Tryz.f117.ntmps (.exit 4) [0, 1, 2, 6, 7] [.s (.ownC 0), vi, .clo 98 [], vi, vi] cdw3q0)
def stabVEnL2Step (v1 : Int) (v2 : Int) (st : Int × Int × List En) : T ((Int × Int × List En) ⊕ (Int × List En)) :=
 let v3 := st.1
 let v4 := st.2.1
 let d := st.2.2
 bif decide (v4 ≤ v1) then
 (sortMEn d v3 (w64 (v3 + v2)) v4).bind fun x0 =>
 .ret (Sum.inl (v4, w64 (v4 + w64 (2 * v2)), x0))
 else
 .ret (Sum.inr (v3, d))
@[reducible] def stabVEnL2I : PIf (VhL stabVEnL2vs × OShL stabVEnL2os) stabVEnL2fin.Y where
  α := Int × List En
  tr x := T.loop (stabVEnL2Step x.1.2.1 x.1.2.2.2.1) FU (x.1.2.2.2.2.1, x.1.2.2.2.2.2.1, x.2.1)
  enc x a := ((x.1.1, x.1.2.1, (), x.1.2.2.2.1, a.1, ()), (a.2, ()))
theorem stabVEnL2_raw (sp_cmpEn : cmpEn_T) (sp_insEn : insEn_T) (sp_symMEn : VhL [.s (.own 0), vi, vi, vi, .clo 98 []] × OShL cdw3q0 → Option (VhL [] × OShL cdw3q0)) (v0 : Value) (v1 : Int) (v2 : Int) (v3 : Int) (v4 : Int) (d : List En) : runW 1 Tryz.f117 2 [0, 1, 2, 6, 7, 8] stabVEnL2vs stabVEnL2os stabVEnL2fin [(98, cmpEn_C sp_cmpEn), (123, insEn_C sp_insEn), (124, Con.fx [vi, vi, vi, .clo 98 []] cdw3q0 [] cdw3q0 sp_symMEn)] [] [] (((v0, v1, (), v2, v3, v4, ()), (d, ())) : VhL stabVEnL2vs × OShL stabVEnL2os) = (bif decide (v4 ≤ v1) then (sp_symMEn (((), v3, w64 (v3 + v2), v4, (), ()), d, ())).bind fun val => some (Sum.inl ((v0, v1, (), v2, v4, w64 (v4 + w64 (2 * v2)), ()), val.2.1, ())) else some (Sum.inr ((v0, v1, (), v2, v3, ()), d, ()))) := by kernel_rfl
theorem stabVEnL2_ok : LOk Tryz.prog gl 1 (LCon.of Tryz.f117.ntmps [0, 1, 2, 6, 7, 8] stabVEnL2vs stabVEnL2os stabVEnL2fin (PIf.spec stabVEnL2I)) (getL (body Tryz.f117) 2) := by
  refine lwk (Lc := []) (nh := []) (G := [(98, cmpEn_C (PIf.spec cmpEnI)), (123, insEn_C (PIf.spec insEnI)), (124, Con.fx [vi, vi, vi, .clo 98 []] cdw3q0 [] cdw3q0 (PIf.spec symMEnI))]) (GOk.cons cmpEn_g cmpEn_ok (GOk.cons insEn_g insEn_ok (GOk.cons ⟨Tryz.f124, body Tryz.f124, by kernel_rfl, by kernel_rfl, by kernel_rfl⟩ symMEn_ok (GOk.nil)))) (noloopN (by kernel_rfl)) (Fin.one_ok _ _ _ _) ?_
  rintro ⟨⟨v0, v1, _, v2, v3, v4, _⟩, ⟨d, _⟩⟩ y hy
  refine ⟨_, loopP_ok (eX := fun (st : Int × Int × List En) => (let v3 := st.1; let v4 := st.2.1; let d := st.2.2; ((v0, v1, (), v2, v3, v4, ()), (d, ())) : VhL stabVEnL2vs × OShL stabVEnL2os)) (body := stabVEnL2Step v1 v2) (fun st => ?_) _ (v3, v4, d) y hy⟩
  obtain ⟨v3, v4, d⟩ := st
  refine (stabVEnL2_raw (PIf.spec cmpEnI) (PIf.spec insEnI) (PIf.spec symMEnI) v0 v1 v2 v3 v4 d).trans ?_
  unfold stabVEnL2Step
  repeat' (first | refine cond_outP (fun _ => ?_) (fun _ => ?_) | (refine bindP (fun _ => ?_); try dsimp only [selim, cond_true, cond_false, Bool.not_true, Bool.not_false, one, mI, cmpEnI, insEnI, symMEnI]) | rfl)
abbrev stabVEnL1vs : List Vh := [.s (.ownC 0), vi, .clo 98 [], vi]
abbrev stabVEnL1os : List OSh := cdw3q0
noncomputable abbrev stabVEnL1fin : Fin := (Fin.one 1 Tryz.f117.ntmps (.exit 2) [0] [.s (.ownC 0)] cdw3q0)
def stabVEnL1Step (v1 : Int) (st : Int × List En) : T ((Int × List En) ⊕ (List En)) :=
 let v2 := st.1
 let d := st.2
 bif decide (v2 < v1) then
 (T.loop (stabVEnL2Step v1 v2) 4611686018427387904 (0, w64 (2 * v2), d)).bind fun x0 =>
 bif decide (w64 (x0.1 + v2) < v1) then
 (sortMEn x0.2 x0.1 (w64 (x0.1 + v2)) v1).bind fun x1 =>
 .ret (Sum.inl (w64 (v2 * 2), x1))
 else
 .ret (Sum.inl (w64 (v2 * 2), x0.2))
 else
 .ret (Sum.inr d)
@[reducible] def stabVEnL1I : PIf (VhL stabVEnL1vs × OShL stabVEnL1os) stabVEnL1fin.Y where
  α := List En
  tr x := T.loop (stabVEnL1Step x.1.2.1) FU (x.1.2.2.2.1, x.2.1)
  enc x a := ((x.1.1, ()), (a, ()))
theorem stabVEnL1_raw (sp_cmpEn : cmpEn_T) (sp_insEn : insEn_T) (sp_symMEn : VhL [.s (.own 0), vi, vi, vi, .clo 98 []] × OShL cdw3q0 → Option (VhL [] × OShL cdw3q0)) (sp_stabVEnL2 : VhL stabVEnL2vs × OShL stabVEnL2os → Option stabVEnL2fin.Y) (v0 : Value) (v1 : Int) (v2 : Int) (d : List En) : runW 1 Tryz.f117 1 [0, 1, 2, 6] stabVEnL1vs stabVEnL1os stabVEnL1fin [(98, cmpEn_C sp_cmpEn), (123, insEn_C sp_insEn), (124, Con.fx [vi, vi, vi, .clo 98 []] cdw3q0 [] cdw3q0 sp_symMEn)] [(9, LCon.of Tryz.f117.ntmps [0, 1, 2, 6, 7, 8] stabVEnL2vs stabVEnL2os stabVEnL2fin sp_stabVEnL2)] [] (((v0, v1, (), v2, ()), (d, ())) : VhL stabVEnL1vs × OShL stabVEnL1os) = (bif decide (v2 < v1) then (sp_stabVEnL2 ((v0, v1, (), v2, 0, w64 (2 * v2), ()), d, ())).bind fun val => bif decide (w64 (val.1.2.2.2.2.1 + val.1.2.2.2.1) < val.1.2.1) then (sp_symMEn (((), val.1.2.2.2.2.1, w64 (val.1.2.2.2.2.1 + val.1.2.2.2.1), val.1.2.1, (), ()), val.2.1, ())).bind fun val_1 => some (Sum.inl ((val.1.1, val.1.2.1, (), w64 (val.1.2.2.2.1 * 2), ()), val_1.2.1, ())) else some (Sum.inl ((val.1.1, val.1.2.1, (), w64 (val.1.2.2.2.1 * 2), ()), val.2.1, ()))
else some (Sum.inr ((v0, ()), d, ()))) := by kernel_rfl
theorem stabVEnL1_ok : LOk Tryz.prog gl 1 (LCon.of Tryz.f117.ntmps [0, 1, 2, 6] stabVEnL1vs stabVEnL1os stabVEnL1fin (PIf.spec stabVEnL1I)) (getL (body Tryz.f117) 1) := by
  refine lwk (Lc := [(9, LCon.of Tryz.f117.ntmps [0, 1, 2, 6, 7, 8] stabVEnL2vs stabVEnL2os stabVEnL2fin (PIf.spec stabVEnL2I))]) (nh := []) (G := [(98, cmpEn_C (PIf.spec cmpEnI)), (123, insEn_C (PIf.spec insEnI)), (124, Con.fx [vi, vi, vi, .clo 98 []] cdw3q0 [] cdw3q0 (PIf.spec symMEnI))]) (GOk.cons cmpEn_g cmpEn_ok (GOk.cons insEn_g insEn_ok (GOk.cons ⟨Tryz.f124, body Tryz.f124, by kernel_rfl, by kernel_rfl, by kernel_rfl⟩ symMEn_ok (GOk.nil)))) (lcok (bs := [getL (body Tryz.f117) 2]) (by kernel_rfl) ⟨lone_ok (q := (9, LCon.of Tryz.f117.ntmps [0, 1, 2, 6, 7, 8] stabVEnL2vs stabVEnL2os stabVEnL2fin (PIf.spec stabVEnL2I))) (by kernel_rfl) stabVEnL2_ok, trivial⟩) (Fin.one_ok _ _ _ _) ?_
  rintro ⟨⟨v0, v1, _, v2, _⟩, ⟨d, _⟩⟩ y hy
  refine ⟨_, loopP_ok (eX := fun (st : Int × List En) => (let v2 := st.1; let d := st.2; ((v0, v1, (), v2, ()), (d, ())) : VhL stabVEnL1vs × OShL stabVEnL1os)) (body := stabVEnL1Step v1) (fun st => ?_) _ (v2, d) y hy⟩
  obtain ⟨v2, d⟩ := st
  refine (stabVEnL1_raw (PIf.spec cmpEnI) (PIf.spec insEnI) (PIf.spec symMEnI) (PIf.spec stabVEnL2I) v0 v1 v2 d).trans ?_
  unfold stabVEnL1Step
  repeat' (first | refine cond_outP (fun _ => ?_) (fun _ => ?_) | (refine bindP (fun _ => ?_); try dsimp only [selim, cond_true, cond_false, Bool.not_true, Bool.not_false, one, mI, cmpEnI, insEnI, symMEnI, stabVEnL2I]) | rfl)
abbrev stabVEnL0vs : List Vh := [.s (.ownC 0), vi, .clo 98 [], vi, vi, vi]
abbrev stabVEnL0os : List OSh := cdw3q0
noncomputable abbrev stabVEnL0fin : Fin := (Fin.one 1 Tryz.f117.ntmps (.exit 0) [0, 1, 2, 6, 7] [.s (.ownC 0), vi, .clo 98 [], vi, vi] cdw3q0)
def stabVEnL0Step (v1 : Int) (v2 : Int) (st : Int × Int × List En) : T ((Int × Int × List En) ⊕ (Int × List En)) :=
 let v3 := st.1
 let v4 := st.2.1
 let d := st.2.2
 bif decide (v4 ≤ v1) then
 (insEnTr v3 v4 d).bind fun x0 =>
 .ret (Sum.inl (v4, w64 (v4 + v2), x0))
 else
 .ret (Sum.inr (v3, d))
@[reducible] def stabVEnL0I : PIf (VhL stabVEnL0vs × OShL stabVEnL0os) stabVEnL0fin.Y where
  α := Int × List En
  tr x := T.loop (stabVEnL0Step x.1.2.1 x.1.2.2.2.1) FU (x.1.2.2.2.2.1, x.1.2.2.2.2.2.1, x.2.1)
  enc x a := ((x.1.1, x.1.2.1, (), x.1.2.2.2.1, a.1, ()), (a.2, ()))
theorem stabVEnL0_raw (sp_cmpEn : cmpEn_T) (sp_insEn : insEn_T) (sp_symMEn : VhL [.s (.own 0), vi, vi, vi, .clo 98 []] × OShL cdw3q0 → Option (VhL [] × OShL cdw3q0)) (v0 : Value) (v1 : Int) (v2 : Int) (v3 : Int) (v4 : Int) (d : List En) : runW 1 Tryz.f117 0 [0, 1, 2, 6, 7, 8] stabVEnL0vs stabVEnL0os stabVEnL0fin [(98, cmpEn_C sp_cmpEn), (123, insEn_C sp_insEn), (124, Con.fx [vi, vi, vi, .clo 98 []] cdw3q0 [] cdw3q0 sp_symMEn)] [] [] (((v0, v1, (), v2, v3, v4, ()), (d, ())) : VhL stabVEnL0vs × OShL stabVEnL0os) = (bif decide (v4 ≤ v1) then (sp_insEn (((), v3, v4, (), ()), d, ())).bind fun val => some (Sum.inl ((v0, v1, (), v2, v4, w64 (v4 + v2), ()), val.2.1, ())) else some (Sum.inr ((v0, v1, (), v2, v3, ()), d, ()))) := by kernel_rfl
theorem stabVEnL0_ok : LOk Tryz.prog gl 1 (LCon.of Tryz.f117.ntmps [0, 1, 2, 6, 7, 8] stabVEnL0vs stabVEnL0os stabVEnL0fin (PIf.spec stabVEnL0I)) (getL (body Tryz.f117) 0) := by
  refine lwk (Lc := []) (nh := []) (G := [(98, cmpEn_C (PIf.spec cmpEnI)), (123, insEn_C (PIf.spec insEnI)), (124, Con.fx [vi, vi, vi, .clo 98 []] cdw3q0 [] cdw3q0 (PIf.spec symMEnI))]) (GOk.cons cmpEn_g cmpEn_ok (GOk.cons insEn_g insEn_ok (GOk.cons ⟨Tryz.f124, body Tryz.f124, by kernel_rfl, by kernel_rfl, by kernel_rfl⟩ symMEn_ok (GOk.nil)))) (noloopN (by kernel_rfl)) (Fin.one_ok _ _ _ _) ?_
  rintro ⟨⟨v0, v1, _, v2, v3, v4, _⟩, ⟨d, _⟩⟩ y hy
  refine ⟨_, loopP_ok (eX := fun (st : Int × Int × List En) => (let v3 := st.1; let v4 := st.2.1; let d := st.2.2; ((v0, v1, (), v2, v3, v4, ()), (d, ())) : VhL stabVEnL0vs × OShL stabVEnL0os)) (body := stabVEnL0Step v1 v2) (fun st => ?_) _ (v3, v4, d) y hy⟩
  obtain ⟨v3, v4, d⟩ := st
  refine (stabVEnL0_raw (PIf.spec cmpEnI) (PIf.spec insEnI) (PIf.spec symMEnI) v0 v1 v2 v3 v4 d).trans ?_
  unfold stabVEnL0Step
  repeat' (first | refine cond_outP (fun _ => ?_) (fun _ => ?_) | (refine bindP (fun _ => ?_); try dsimp only [selim, cond_true, cond_false, Bool.not_true, Bool.not_false, one, mI, cmpEnI, insEnI, symMEnI]) | rfl)
def stabVEnTr (n : Int) (d : List En) : T (List En) :=
 (T.loop (stabVEnL0Step n 20) 4611686018427387904 (0, 20, d)).bind fun x0 =>
 (insEnTr x0.1 n x0.2).bind fun x1 =>
 (T.loop (stabVEnL1Step n) 4611686018427387904 (20, x1)).bind fun x2 =>
 .ret x2
@[reducible] def stabVEnCI : PIf (VhL [.s (.ownC 0), vi, .clo 98 []] × OShL cdw3q0) (VhL [.s (.ownC 0)] × OShL cdw3q0) where
  α := List En
  tr x := stabVEnTr x.1.2.1 x.2.1
  enc x a := ((x.1.1, ()), (a, ()))
@[reducible] def stabVEnI : PIf (VhL [.s (.own 0), vi, .clo 98 []] × OShL cdw3q0) (VhL [] × OShL cdw3q0) where
  α := List En
  tr x := stabVEnTr x.1.2.1 x.2.1
  enc x a := ((), (a, ()))
abbrev stabVEn_T : Type := VhL [.s (.own 0), vi, .clo 98 []] × OShL cdw3q0 → Option (VhL [] × OShL cdw3q0)
noncomputable abbrev stabVEn_C (sp : stabVEn_T) : Con := Con.fx [vi, .clo 98 []] cdw3q0 [] cdw3q0 sp
theorem stabVEn_g : Callable Tryz.prog 117 := ⟨Tryz.f117, body Tryz.f117, by kernel_rfl, by kernel_rfl, by kernel_rfl⟩
theorem stabVEn_raw (sp_cmpEn : cmpEn_T) (sp_insEn : insEn_T) (sp_symMEn : VhL [.s (.own 0), vi, vi, vi, .clo 98 []] × OShL cdw3q0 → Option (VhL [] × OShL cdw3q0)) (sp_stabVEnL0 : VhL stabVEnL0vs × OShL stabVEnL0os → Option stabVEnL0fin.Y) (sp_stabVEnL2 : VhL stabVEnL2vs × OShL stabVEnL2os → Option stabVEnL2fin.Y) (sp_stabVEnL1 : VhL stabVEnL1vs × OShL stabVEnL1os → Option stabVEnL1fin.Y) (c0 : Value) (n : Int) (d : List En) : runX Tryz.f117 [vi, .clo 98 []] cdw3q0 [] cdw3q0 [(98, cmpEn_C sp_cmpEn), (123, insEn_C sp_insEn), (124, Con.fx [vi, vi, vi, .clo 98 []] cdw3q0 [] cdw3q0 sp_symMEn)] [(2, LCon.of Tryz.f117.ntmps [0, 1, 2, 6, 7, 8] stabVEnL0vs stabVEnL0os stabVEnL0fin sp_stabVEnL0), (9, LCon.of Tryz.f117.ntmps [0, 1, 2, 6, 7, 8] stabVEnL2vs stabVEnL2os stabVEnL2fin sp_stabVEnL2), (7, LCon.of Tryz.f117.ntmps [0, 1, 2, 6] stabVEnL1vs stabVEnL1os stabVEnL1fin sp_stabVEnL1)] [] (((c0, n, (), ()), (d, ())) : VhL [.s (.ownC 0), vi, .clo 98 []] × OShL cdw3q0) = ((sp_stabVEnL0 ((c0, n, (), 20, 0, 20, ()), d, ())).bind fun val => (sp_insEn (((), val.1.2.2.2.2.1, val.1.2.1, (), ()), val.2.1, ())).bind fun val_1 => (sp_stabVEnL1 ((val.1.1, val.1.2.1, (), val.1.2.2.2.1, ()), val_1.2.1, ())).bind fun val => some ((val.1.1, ()), val.2.1, ())) := by kernel_rfl
theorem stabVEn_ok : Sound Tryz.prog gl 117 (stabVEn_C (PIf.spec stabVEnI)) := by
  refine cxk (I := stabVEnCI) (J := stabVEnI) (fn := Tryz.f117) (G := [(98, cmpEn_C (PIf.spec cmpEnI)), (123, insEn_C (PIf.spec insEnI)), (124, Con.fx [vi, vi, vi, .clo 98 []] cdw3q0 [] cdw3q0 (PIf.spec symMEnI))]) (GOk.cons cmpEn_g cmpEn_ok (GOk.cons insEn_g insEn_ok (GOk.cons ⟨Tryz.f124, body Tryz.f124, by kernel_rfl, by kernel_rfl, by kernel_rfl⟩ symMEn_ok (GOk.nil)))) (by kernel_rfl) (by kernel_rfl) (Lc := [(2, LCon.of Tryz.f117.ntmps [0, 1, 2, 6, 7, 8] stabVEnL0vs stabVEnL0os stabVEnL0fin (PIf.spec stabVEnL0I)), (9, LCon.of Tryz.f117.ntmps [0, 1, 2, 6, 7, 8] stabVEnL2vs stabVEnL2os stabVEnL2fin (PIf.spec stabVEnL2I)), (7, LCon.of Tryz.f117.ntmps [0, 1, 2, 6] stabVEnL1vs stabVEnL1os stabVEnL1fin (PIf.spec stabVEnL1I))]) (nh := []) (lcok (bs := [getL (body Tryz.f117) 0, getL (body Tryz.f117) 1, getL (body Tryz.f117) 2]) (by kernel_rfl) ⟨lone_ok (q := (2, LCon.of Tryz.f117.ntmps [0, 1, 2, 6, 7, 8] stabVEnL0vs stabVEnL0os stabVEnL0fin (PIf.spec stabVEnL0I))) (by kernel_rfl) stabVEnL0_ok, lone_ok (q := (7, LCon.of Tryz.f117.ntmps [0, 1, 2, 6] stabVEnL1vs stabVEnL1os stabVEnL1fin (PIf.spec stabVEnL1I))) (by kernel_rfl) stabVEnL1_ok, lone_ok (q := (9, LCon.of Tryz.f117.ntmps [0, 1, 2, 6, 7, 8] stabVEnL2vs stabVEnL2os stabVEnL2fin (PIf.spec stabVEnL2I))) (by kernel_rfl) stabVEnL2_ok, trivial⟩) ?_ (fun c0 x o y h => by obtain ⟨a, h1, rfl⟩ := Option.map_eq_some_iff.1 h; exact Option.map_eq_some_iff.2 ⟨a, h1, rfl⟩)
  rintro ⟨⟨c0, n, _, _⟩, ⟨d, _⟩⟩
  refine (stabVEn_raw (PIf.spec cmpEnI) (PIf.spec insEnI) (PIf.spec symMEnI) (PIf.spec stabVEnL0I) (PIf.spec stabVEnL2I) (PIf.spec stabVEnL1I) c0 n d).trans ?_
  show _ = ((stabVEnTr n d).val).map (stabVEnCI.enc ((c0, n, (), ()), (d, ())))
  unfold stabVEnTr
  repeat' (first | (refine bindP (fun _ => ?_); try dsimp only [selim, cond_true, cond_false, Bool.not_true, Bool.not_false, one, mI, cmpEnI, insEnI, symMEnI, stabVEnL0I, stabVEnL2I, stabVEnL1I]) | rfl)
def stabWEnTr (d : List En) : T (List En) :=
 (stabVEnTr (Int.ofNat d.length) d).bind fun x0 =>
 .ret x0
@[reducible] def stabWEnCI : PIf (VhL [.s (.ownC 0), .clo 98 []] × OShL cdw3q0) (VhL [.s (.ownC 0)] × OShL cdw3q0) where
  α := List En
  tr x := stabWEnTr x.2.1
  enc x a := ((x.1.1, ()), (a, ()))
@[reducible] def stabWEnI : PIf (VhL [.s (.own 0), .clo 98 []] × OShL cdw3q0) (VhL [] × OShL cdw3q0) where
  α := List En
  tr x := stabWEnTr x.2.1
  enc x a := ((), (a, ()))
abbrev stabWEn_T : Type := VhL [.s (.own 0), .clo 98 []] × OShL cdw3q0 → Option (VhL [] × OShL cdw3q0)
noncomputable abbrev stabWEn_C (sp : stabWEn_T) : Con := Con.fx [.clo 98 []] cdw3q0 [] cdw3q0 sp
theorem stabWEn_raw (sp_cmpEn : cmpEn_T) (sp_stabVEn : stabVEn_T) (c0 : Value) (d : List En) : runX Tryz.f97 [.clo 98 []] cdw3q0 [] cdw3q0 [(98, cmpEn_C sp_cmpEn), (117, stabVEn_C sp_stabVEn)] [] [] (((c0, (), ()), (d, ())) : VhL [.s (.ownC 0), .clo 98 []] × OShL cdw3q0) = ((sp_stabVEn (((), Int.ofNat d.length, (), ()), d, ())).bind fun val => some ((c0, ()), val.2.1, ())) := by kernel_rfl
theorem stabWEn_ok : Sound Tryz.prog gl 97 (stabWEn_C (PIf.spec stabWEnI)) := by
  refine cxk (I := stabWEnCI) (J := stabWEnI) (fn := Tryz.f97) (G := [(98, cmpEn_C (PIf.spec cmpEnI)), (117, stabVEn_C (PIf.spec stabVEnI))]) (GOk.cons cmpEn_g cmpEn_ok (GOk.cons stabVEn_g stabVEn_ok (GOk.nil))) (by kernel_rfl) (by kernel_rfl) (Lc := []) (nh := []) (noloopN (by kernel_rfl)) ?_ (fun c0 x o y h => by obtain ⟨a, h1, rfl⟩ := Option.map_eq_some_iff.1 h; exact Option.map_eq_some_iff.2 ⟨a, h1, rfl⟩)
  rintro ⟨⟨c0, _, _⟩, ⟨d, _⟩⟩
  refine (stabWEn_raw (PIf.spec cmpEnI) (PIf.spec stabVEnI) c0 d).trans ?_
  show _ = ((stabWEnTr d).val).map (stabWEnCI.enc ((c0, (), ()), (d, ())))
  unfold stabWEnTr
  repeat' (first | (refine bindP (fun _ => ?_); try dsimp only [selim, cond_true, cond_false, Bool.not_true, Bool.not_false, one, mI, cmpEnI, stabVEnI]) | rfl)
end Go.Ax.Cd
/- The stable sort of edges' ends, as the library has it, is the stable sort. -/
namespace Go.Ax.Cd
set_option linter.unusedVariables false
set_option maxRecDepth 100000
namespace SEn
abbrev E : EK := .st .en
abbrev ky (x : En) : Int := x.edge
theorem cmp_val (x y : En) : ∃ c, (cmpEnTr x y).val = some c ∧ decide (c < 0) = decide (ky x < ky y) := by
  unfold cmpEnTr cmpITr
  by_cases h1 : x.edge < y.edge
  · exact ⟨-1, by simp [T.val_bind, T.val_ret, h1], by simp [ky, h1]⟩
  · by_cases h2 : y.edge < x.edge
    · exact ⟨1, by simp [T.val_bind, T.val_ret, h1, h2], by simp [ky, h1]⟩
    · exact ⟨0, by simp [T.val_bind, T.val_ret, h1, h2], by simp [ky, h1]⟩
/-! ### Two blocks swapped -/
theorem swap_loop {a b n : Int} : ∀ (X Y A B C : List En) (i : Int) (k : Nat), X.length = Y.length → 0 ≤ i → i + X.length = n → a + i = A.length → b + i = A.length + X.length + B.length → 0 ≤ a → 0 ≤ b → (A ++ X ++ B ++ Y ++ C).length ≤ 1000000 → X.length < k →
    (T.loop (swapEnL0Step a b n) k (i, A ++ X ++ B ++ Y ++ C)).val = some (A ++ Y ++ B ++ X ++ C)
  | [], Y, A, B, C, i, k, hl, hi, hn, ha, hb, ha0, hb0, hs, hk => by
    obtain ⟨k, rfl⟩ : ∃ k', k = k' + 1 := ⟨k - 1, by simp at hk; omega⟩
    have : Y = [] := by simpa using hl.symm
    subst this
    refine loop_end ?_
    have : ¬ i < n := by simp at hn; omega
    simp [swapEnL0Step, this, T.val_ret]
  | x :: X, [], A, B, C, i, k, hl, _, _, _, _, _, _, _, _ => by simp at hl
  | x :: X, y :: Y, A, B, C, i, k, hl, hi, hn, ha, hb, ha0, hb0, hs, hk => by
    obtain ⟨k, rfl⟩ : ∃ k', k = k' + 1 := ⟨k - 1, by simp at hk; omega⟩
    simp only [List.length_append, List.length_cons] at hs hl hn hb hk
    have e1 : w64 (a + i) = (A.length : Int) := by rw [w64_id] <;> omega
    have e2 : w64 (b + i) = ((A ++ x :: X ++ B).length : Int) := by rw [w64_id] <;> (try simp) <;> omega
    have e2' : w64 (b + i) = ((A ++ y :: X ++ B).length : Int) := by rw [e2]; simp
    have e3 : w64 (i + 1) = i + 1 := by rw [w64_id] <;> omega
    have d1 : A ++ x :: X ++ B ++ y :: Y ++ C = A ++ x :: (X ++ B ++ y :: Y ++ C) := by simp
    have d2 : A ++ x :: X ++ B ++ y :: Y ++ C = (A ++ x :: X ++ B) ++ y :: (Y ++ C) := by simp
    have r1 : rd (e := E) (A ++ x :: X ++ B ++ y :: Y ++ C) (w64 (a + i)) = x := rd_at d1 e1
    have r2 : rd (e := E) (A ++ x :: X ++ B ++ y :: Y ++ C) (w64 (b + i)) = y := rd_at d2 e2
    have w1 : wr (e := E) (A ++ x :: X ++ B ++ y :: Y ++ C) (w64 (a + i)) y = A ++ y :: (X ++ B ++ y :: Y ++ C) := wr_at d1 e1
    have d3 : A ++ y :: (X ++ B ++ y :: Y ++ C) = (A ++ y :: X ++ B) ++ y :: (Y ++ C) := by simp
    have w2 : wr (e := E) (A ++ y :: (X ++ B ++ y :: Y ++ C)) (w64 (b + i)) x = (A ++ y :: X ++ B) ++ x :: (Y ++ C) := wr_at d3 e2'
    have i1 := inR_at (e := E) d1 e1
    have i2 := inR_at (e := E) d2 e2
    have i3 := inR_at (e := E) d3 e2'
    have ih := swap_loop (a := a) (b := b) (n := n) X Y (A ++ [y]) (B ++ [x]) C (i + 1) k (by omega) (by omega) (by omega) (by simp; omega) (by simp; omega) ha0 hb0 (by simp; omega) (by omega)
    refine loop_step (s' := (i + 1, A ++ [y] ++ X ++ (B ++ [x]) ++ Y ++ C)) ?_ (ih.trans (by simp))
    have c : i < n := by omega
    simp only [swapEnL0Step, rdE, wrE, c, decide_true, cond_true, i1, i2, r1, r2, w1, w2, i3, e3, T.val_ret]
    simp
theorem swap_val {a b n : Int} (X Y A B C : List En) (hl : X.length = Y.length) (hn : n = X.length) (ha : a = A.length) (hb : b = A.length + X.length + B.length) (hs : (A ++ X ++ B ++ Y ++ C).length ≤ 1000000) :
    (swapEnTr a b n (A ++ X ++ B ++ Y ++ C)).val = some (A ++ Y ++ B ++ X ++ C) := by
  unfold swapEnTr
  have hs' := hs
  simp only [List.length_append] at hs'
  rw [T.val_bind, swap_loop X Y A B C 0 _ hl (Int.le_refl _) (by omega) (by omega) (by omega) (by omega) (by omega) hs (by omega)]
  rfl
/-! ### Two blocks, one behind the other, in the other order -/
theorem rot_loop {m : Int} : ∀ (s : Nat) (P X Y Q : List En) (k : Nat), X.length + Y.length ≤ s → 0 < X.length → 0 < Y.length → m = P.length + X.length → (P ++ X ++ Y ++ Q).length ≤ 1000000 → s < k →
    ∃ P' X' Y' Q' : List En, (T.loop (rotEnL0Step m) k ((X.length : Int), (Y.length : Int), P ++ X ++ Y ++ Q)).val = some ((X'.length : Int), P' ++ X' ++ Y' ++ Q') ∧ X'.length = Y'.length ∧ m = P'.length + X'.length ∧ (P' ++ X' ++ Y' ++ Q').length ≤ 1000000 ∧ P' ++ Y' ++ X' ++ Q' = P ++ Y ++ X ++ Q
  | 0, P, X, Y, Q, k, h, hx, _, _, _, _ => by omega
  | s + 1, P, X, Y, Q, k, h, hx, hy, hm, hs, hk => by
    obtain ⟨k, rfl⟩ : ∃ k', k = k' + 1 := ⟨k - 1, by omega⟩
    have hs' := hs
    simp only [List.length_append] at hs'
    by_cases c : X.length = Y.length
    · refine ⟨P, X, Y, Q, loop_end ?_, c, hm, hs, rfl⟩
      simp [rotEnL0Step, c, T.val_ret]
    · have c1 : ((X.length : Int) != (Y.length : Int)) = true := by simp; omega
      by_cases c2 : X.length > Y.length
      · -- the first part of X for Y
        obtain ⟨X1, X2, rfl, hX1⟩ : ∃ X1 X2, X = X1 ++ X2 ∧ X1.length = Y.length := ⟨X.take Y.length, X.drop Y.length, by simp, by simp; omega⟩
        simp only [List.length_append] at h hm c c2 hs' hx
        have e1 : w64 (m - ((X1 ++ X2).length : Int)) = (P.length : Int) := by rw [w64_id] <;> (try simp) <;> omega
        have e2 : w64 (((X1 ++ X2).length : Int) - (Y.length : Int)) = (X2.length : Int) := by rw [w64_id] <;> (try simp) <;> omega
        have hv := swap_val (a := P.length) (b := m) (n := Y.length) X1 Y P X2 Q hX1 (by omega) rfl (by omega) (by simp; omega)
        obtain ⟨P', X', Y', Q', k1, k2, k3, k4, k5⟩ := rot_loop (m := m) s (P ++ Y) X2 X1 Q k (by omega) (by omega) (by omega) (by simp; omega) (by simp; omega) (by omega)
        refine ⟨P', X', Y', Q', loop_step (s' := ((X2.length : Int), (Y.length : Int), P ++ Y ++ X2 ++ X1 ++ Q)) ?_ (by rw [← hX1]; exact k1), k2, k3, k4, by rw [k5]; simp⟩
        have c3 : ((X1 ++ X2).length : Int) > (Y.length : Int) := by simp; omega
        have d : P ++ (X1 ++ X2) ++ Y ++ Q = P ++ X1 ++ X2 ++ Y ++ Q := by simp
        simp only [rotEnL0Step, c1, c3, decide_true, cond_true, e1, e2, T.val_bind, d, hv, Option.bind_some, T.val_ret]
      · obtain ⟨Y1, Y2, rfl, hY2⟩ : ∃ Y1 Y2, Y = Y1 ++ Y2 ∧ Y2.length = X.length := ⟨Y.take (Y.length - X.length), Y.drop (Y.length - X.length), by simp, by simp; omega⟩
        simp only [List.length_append] at h hm c c2 hs' hy
        have e1 : w64 (m - (X.length : Int)) = (P.length : Int) := by rw [w64_id] <;> omega
        have e2 : w64 (((Y1 ++ Y2).length : Int) - (X.length : Int)) = (Y1.length : Int) := by rw [w64_id] <;> (try simp) <;> omega
        have e4 : w64 (m + ((Y1 ++ Y2).length : Int)) = m + ((Y1 ++ Y2).length : Int) := by rw [w64_id] <;> (try simp) <;> omega
        have e3 : w64 (w64 (m + ((Y1 ++ Y2).length : Int)) - (X.length : Int)) = (P.length : Int) + X.length + Y1.length := by rw [e4, w64_id] <;> (try simp) <;> omega
        have hv := swap_val (a := P.length) (b := (P.length : Int) + X.length + Y1.length) (n := X.length) X Y2 P Y1 Q hY2.symm rfl rfl rfl (by simp; omega)
        obtain ⟨P', X', Y', Q', k1, k2, k3, k4, k5⟩ := rot_loop (m := m) s P Y2 Y1 (X ++ Q) k (by omega) (by omega) (by omega) (by omega) (by simp; omega) (by omega)
        refine ⟨P', X', Y', Q', loop_step (s' := ((X.length : Int), (Y1.length : Int), P ++ Y2 ++ Y1 ++ (X ++ Q))) ?_ (by rw [← hY2]; exact k1), k2, k3, k4, by rw [k5]; simp⟩
        have c3 : ¬ ((X.length : Int) > ((Y1 ++ Y2).length : Int)) := by simp; omega
        have d : P ++ X ++ (Y1 ++ Y2) ++ Q = P ++ X ++ Y1 ++ Y2 ++ Q := by simp
        simp only [rotEnL0Step, c1, c3, decide_false, cond_true, cond_false, e1, e2, e3, T.val_bind, d, hv, Option.bind_some, T.val_ret]
        simp
theorem rot_val {a m b : Int} (P X Y Q : List En) (hx : 0 < X.length) (hy : 0 < Y.length) (ha : a = P.length) (hm : m = P.length + X.length) (hb : b = P.length + X.length + Y.length) (hs : (P ++ X ++ Y ++ Q).length ≤ 1000000) :
    (rotEnTr a m b (P ++ X ++ Y ++ Q)).val = some (P ++ Y ++ X ++ Q) := by
  unfold rotEnTr
  have hs' := hs
  simp only [List.length_append] at hs'
  have e1 : w64 (m - a) = (X.length : Int) := by rw [w64_id] <;> omega
  have e2 : w64 (b - m) = (Y.length : Int) := by rw [w64_id] <;> omega
  obtain ⟨P', X', Y', Q', k1, k2, k3, k4, k5⟩ := rot_loop (m := m) (X.length + Y.length) P X Y Q 4611686018427387904 (Nat.le_refl _) hx hy hm hs (by omega)
  have k4' := k4
  simp only [List.length_append] at k4'
  have e3 : w64 (m - (X'.length : Int)) = (P'.length : Int) := by rw [w64_id] <;> omega
  have hv := swap_val (a := P'.length) (b := m) (n := X'.length) X' Y' P' [] Q' k2 rfl rfl (by simp; omega) (by simpa using k4)
  rw [e1, e2, T.val_bind, k1, Option.bind_some]
  simp only [e3, T.val_bind]
  rw [show P' ++ X' ++ Y' ++ Q' = P' ++ X' ++ [] ++ Y' ++ Q' by simp, hv]
  simp only [Option.bind_some, T.val_ret]
  rw [← k5]
  simp
end SEn
end Go.Ax.Cd
/- Insertion sort, and the merge, of edges' ends. -/
namespace Go.Ax.Cd
set_option linter.unusedVariables false
set_option maxRecDepth 100000
namespace SEn
theorem ins_loop {a b i : Int} : ∀ (n : Nat) (S P : List En) (x : En) (R : List En) (k : Nat), S.length = n → a = P.length → (P ++ S ++ x :: R).length ≤ 1000000 → n < k →
    ∃ S1 S2, S = S1 ++ S2 ∧ (∀ s ∈ S2, ky x < ky s) ∧ (∀ s, S1.getLast? = some s → ky s ≤ ky x) ∧ (T.loop (insEnL1Step a b i) k (((P.length + S.length : Nat) : Int), P ++ S ++ x :: R)).val = some (P ++ S1 ++ x :: S2 ++ R)
  | 0, S, P, x, R, k, hn, ha, hs, hk => by
    obtain ⟨k, rfl⟩ : ∃ k', k = k' + 1 := ⟨k - 1, by omega⟩
    have : S = [] := by simpa using hn
    subst this
    refine ⟨[], [], rfl, by simp, by simp, loop_end ?_⟩
    have c : ¬ ((P.length : Int) > a) := by omega
    simp [insEnL1Step, c, T.val_ret]
  | n + 1, S, P, x, R, k, hn, ha, hs, hk => by
    obtain ⟨k, rfl⟩ : ∃ k', k = k' + 1 := ⟨k - 1, by omega⟩
    obtain ⟨S, y, rfl⟩ : ∃ S' y, S = S' ++ [y] := ⟨S.dropLast, S.getLast (by intro h; simp [h] at hn), (List.dropLast_concat_getLast _).symm⟩
    simp only [List.length_append, List.length_cons, List.length_nil] at hn hs
    have e1 : w64 ((P.length + (S ++ [y]).length : Nat) - 1 : Int) = ((P ++ S).length : Int) := by rw [w64_id] <;> (try simp) <;> omega
    have c : ((P.length + (S ++ [y]).length : Nat) : Int) > a := by simp; omega
    have d1 : P ++ (S ++ [y]) ++ x :: R = (P ++ (S ++ [y])) ++ x :: R := rfl
    have d2 : P ++ (S ++ [y]) ++ x :: R = (P ++ S) ++ y :: (x :: R) := by simp
    have l1 : ((P.length + (S ++ [y]).length : Nat) : Int) = ((P ++ (S ++ [y])).length : Int) := by simp
    have r1 : rd (e := E) (P ++ (S ++ [y]) ++ x :: R) ((P.length + (S ++ [y]).length : Nat) : Int) = x := rd_at d1 l1
    have r2 : rd (e := E) (P ++ (S ++ [y]) ++ x :: R) (w64 ((P.length + (S ++ [y]).length : Nat) - 1 : Int)) = y := rd_at d2 e1
    have i1 := inR_at (e := E) d1 l1
    have i2 := inR_at (e := E) d2 e1
    obtain ⟨cv, hc1, hc2⟩ := cmp_val x y
    by_cases hxy : ky x < ky y
    · have w1 : wr (e := E) (P ++ (S ++ [y]) ++ x :: R) ((P.length + (S ++ [y]).length : Nat) : Int) y = (P ++ (S ++ [y])) ++ y :: R := wr_at d1 l1
      have d3 : (P ++ (S ++ [y])) ++ y :: R = (P ++ S) ++ y :: (y :: R) := by simp
      have w2 : wr (e := E) ((P ++ (S ++ [y])) ++ y :: R) (w64 ((P.length + (S ++ [y]).length : Nat) - 1 : Int)) x = (P ++ S) ++ x :: (y :: R) := wr_at d3 e1
      have i3 := inR_at (e := E) d3 e1
      obtain ⟨S1, S2, k1, k2, k3, k4⟩ := ins_loop (a := a) (b := b) (i := i) n S P x (y :: R) k (by omega) ha (by simp; omega) (by omega)
      refine ⟨S1, S2 ++ [y], by rw [k1]; simp, fun s hs => ?_, k3, loop_step (s' := (((P.length + S.length : Nat) : Int), P ++ S ++ x :: (y :: R))) ?_ (k4.trans (by simp))⟩
      · rcases List.mem_append.1 hs with hs | hs
        · exact k2 s hs
        · simp only [List.mem_singleton] at hs
          subst hs
          exact hxy
      · have hc3 : decide (cv < 0) = true := by rw [hc2]; exact decide_eq_true hxy
        simp only [insEnL1Step, rdE, wrE, c, decide_true, cond_true, i1, i2, r1, r2, T.val_bind, hc1, Option.bind_some, hc3, w1, w2, i3, T.val_ret]
        rw [e1]
        simp
    · have hc3 : decide (cv < 0) = false := by rw [hc2]; exact decide_eq_false hxy
      refine ⟨S ++ [y], [], by simp, by simp, fun s hs => ?_, loop_end ?_⟩
      · simp at hs
        subst hs
        omega
      · simp only [insEnL1Step, rdE, wrE, c, decide_true, cond_true, i1, i2, r1, r2, T.val_bind, hc1, Option.bind_some, hc3, cond_false, T.val_ret]
        simp
theorem last_le {S1 : List En} {x : En} (h : Srt ky S1) (hl : ∀ s, S1.getLast? = some s → ky s ≤ ky x) : ∀ s ∈ S1, ky s ≤ ky x := fun s hs => by
  cases hg : S1.getLast? with
  | none => rw [List.getLast?_eq_none_iff] at hg; subst hg; simp at hs
  | some z =>
    obtain ⟨ys, rfl⟩ := List.getLast?_eq_some_iff.1 hg
    have hz := hl z hg
    rcases List.mem_append.1 hs with h1 | h1
    · have := (List.pairwise_append.1 h).2.2 s h1 z (by simp)
      omega
    · simp only [List.mem_singleton] at h1
      subst h1
      exact hz
theorem ins_outer {a b : Int} : ∀ (R S P Q : List En) (k : Nat), Srt ky S → a = P.length → b = P.length + S.length + R.length → (P ++ S ++ R ++ Q).length ≤ 1000000 → R.length < k →
    (T.loop (insEnL0Step a b) k (((P.length + S.length : Nat) : Int), P ++ S ++ R ++ Q)).val = some (P ++ isort ky (S ++ R) ++ Q)
  | [], S, P, Q, k, hS, ha, hb, hs, hk => by
    obtain ⟨k, rfl⟩ : ∃ k', k = k' + 1 := ⟨k - 1, by simp at hk; omega⟩
    refine loop_end ?_
    have c : ¬ (((P.length + S.length : Nat) : Int) < b) := by simp at hb; omega
    simp only [insEnL0Step, c, decide_false, cond_false, T.val_ret]
    simp [isort_of_srt hS]
  | x :: R, S, P, Q, k, hS, ha, hb, hs, hk => by
    obtain ⟨k, rfl⟩ : ∃ k', k = k' + 1 := ⟨k - 1, by simp at hk; omega⟩
    simp only [List.length_append, List.length_cons] at hs hb hk
    obtain ⟨S1, S2, rfl, k2, k3, k4⟩ := ins_loop (a := a) (b := b) (i := ((P.length + S.length : Nat) : Int)) S.length S P x (R ++ Q) 4611686018427387904 rfl ha (by simp; omega) (by omega)
    have hS' := List.pairwise_append.1 hS
    have hle := last_le (S1 := S1) hS'.1 k3
    have hN : Srt ky (S1 ++ x :: S2) := Srt.app hS'.1 (List.pairwise_cons.2 ⟨fun s hs => by have := k2 s hs; omega, hS'.2.1⟩) (fun u hu v hv => by
      rcases List.mem_cons.1 hv with rfl | hv
      · exact hle u hu
      · exact hS'.2.2 u hu v hv)
    have hSE : SE ky (S1 ++ x :: S2) ((S1 ++ S2) ++ [x]) := by
      rw [List.append_assoc]
      exact SE.append (SE.refl _) (SE.swap (X := [x]) (Y := S2) (fun u hu v hv => by simp only [List.mem_singleton] at hu; subst hu; have := k2 v hv; omega))
    have ih := ins_outer (a := a) (b := b) R (S1 ++ x :: S2) P Q k hN ha (by simp only [List.length_append, List.length_cons] at hb ⊢; omega) (by simp only [List.length_append, List.length_cons] at hs ⊢; omega) (by omega)
    have hI : isort ky ((S1 ++ x :: S2) ++ R) = isort ky ((S1 ++ S2) ++ x :: R) := by
      refine isort_of_SE ((SE.append hSE (SE.refl R)).trans ?_)
      simp only [List.append_assoc, List.cons_append, List.nil_append]
      exact SE.refl _
    rw [hI] at ih
    refine loop_step (s' := (((P.length + (S1 ++ x :: S2).length : Nat) : Int), P ++ (S1 ++ x :: S2) ++ R ++ Q)) ?_ ih
    have c : ((P.length + (S1 ++ S2).length : Nat) : Int) < b := by simp only [List.length_append] at hb ⊢; omega
    have d : P ++ (S1 ++ S2) ++ x :: R ++ Q = P ++ (S1 ++ S2) ++ x :: (R ++ Q) := by simp
    have e1 : w64 (((P.length + (S1 ++ S2).length : Nat) : Int) + 1) = ((P.length + (S1 ++ x :: S2).length : Nat) : Int) := by
      simp only [List.length_append, List.length_cons] at hs ⊢
      rw [w64_id] <;> omega
    simp only [insEnL0Step, c, decide_true, cond_true, T.val_bind, d, k4, Option.bind_some, T.val_ret, e1]
    simp
theorem ins_val {a b : Int} (P U Q : List En) (ha : a = P.length) (hb : b = P.length + U.length) (hs : (P ++ U ++ Q).length ≤ 1000000) : (insEnTr a b (P ++ U ++ Q)).val = some (P ++ isort ky U ++ Q) := by
  unfold insEnTr
  simp only [List.length_append] at hs
  have e1 : w64 (a + 1) = ((P.length + 1 : Nat) : Int) := by rw [w64_id] <;> omega
  cases U with
  | nil =>
    have c : ¬ (((P.length + 1 : Nat) : Int) < b) := by simp at hb; omega
    have := loop_end (body := insEnL0Step a b) (k := 4611686018427387903) (s := (((P.length + 1 : Nat) : Int), P ++ [] ++ Q)) (b := P ++ [] ++ Q) (by simp only [insEnL0Step, c, decide_false, cond_false, T.val_ret])
    rw [T.val_bind, e1, this]
    rfl
  | cons x U =>
    simp only [List.length_cons] at hs hb
    have := ins_outer (a := a) (b := b) U [x] P Q 4611686018427387904 (by simp [Srt]) ha (by simp; omega) (by simp; omega) (by omega)
    rw [T.val_bind, e1, show P ++ x :: U ++ Q = P ++ [x] ++ U ++ Q by simp]
    rw [show ((P.length + [x].length : Nat) : Int) = ((P.length + 1 : Nat) : Int) by simp] at this
    rw [this]
    simp [T.val_ret]
/-! ### An element moved -/
theorem fwd_loop {r : Int} : ∀ (W P : List En) (x : En) (R : List En) (k : Nat), r = P.length + 1 + W.length → (P ++ x :: W ++ R).length ≤ 1000000 → W.length < k →
    (T.loop (symEnL1Step r) k ((P.length : Int), P ++ x :: W ++ R)).val = some (P ++ W ++ x :: R)
  | [], P, x, R, k, hr, hs, hk => by
    obtain ⟨k, rfl⟩ : ∃ k', k = k' + 1 := ⟨k - 1, by simp at hk; omega⟩
    simp only [List.length_append, List.length_cons, List.length_nil] at hs hr
    refine loop_end ?_
    have c : ¬ ((P.length : Int) < w64 (r - 1)) := by rw [w64_id] <;> omega
    simp [symEnL1Step, c, T.val_ret]
  | y :: W, P, x, R, k, hr, hs, hk => by
    obtain ⟨k, rfl⟩ : ∃ k', k = k' + 1 := ⟨k - 1, by simp at hk; omega⟩
    simp only [List.length_append, List.length_cons] at hs hr hk
    have c : (P.length : Int) < w64 (r - 1) := by rw [w64_id] <;> omega
    have e1 : w64 ((P.length : Int) + 1) = ((P ++ [x]).length : Int) := by rw [w64_id] <;> (try simp) <;> omega
    have e2 : w64 ((P.length : Int) + 1) = ((P ++ [y]).length : Int) := by rw [e1]; simp
    have d1 : P ++ x :: (y :: W) ++ R = P ++ x :: (y :: W ++ R) := by simp
    have d2 : P ++ x :: (y :: W) ++ R = (P ++ [x]) ++ y :: (W ++ R) := by simp
    have r1 : rd (e := E) (P ++ x :: (y :: W) ++ R) (P.length : Int) = x := rd_at d1 rfl
    have r2 : rd (e := E) (P ++ x :: (y :: W) ++ R) (w64 ((P.length : Int) + 1)) = y := rd_at d2 e1
    have w1 : wr (e := E) (P ++ x :: (y :: W) ++ R) (P.length : Int) y = P ++ y :: (y :: W ++ R) := wr_at d1 rfl
    have d3 : P ++ y :: (y :: W ++ R) = (P ++ [y]) ++ y :: (W ++ R) := by simp
    have w2 : wr (e := E) (P ++ y :: (y :: W ++ R)) (w64 ((P.length : Int) + 1)) x = (P ++ [y]) ++ x :: (W ++ R) := wr_at d3 e2
    have i1 := inR_at (e := E) d1 rfl
    have i2 := inR_at (e := E) d2 e1
    have i3 := inR_at (e := E) d3 e2
    have ih := fwd_loop (r := r) W (P ++ [y]) x R k (by simp; omega) (by simp; omega) (by omega)
    refine loop_step (s' := (((P ++ [y]).length : Int), P ++ [y] ++ x :: W ++ R)) ?_ (ih.trans (by simp))
    simp only [symEnL1Step, rdE, wrE, c, decide_true, cond_true, i1, i2, r1, r2, w1, w2, i3, T.val_ret]
    rw [e2]
    simp
theorem bwd_loop {r : Int} : ∀ (n : Nat) (W P : List En) (x : En) (R : List En) (k : Nat), W.length = n → r = P.length → (P ++ W ++ x :: R).length ≤ 1000000 → n < k →
    (T.loop (symEnL3Step r) k (((P.length + W.length : Nat) : Int), P ++ W ++ x :: R)).val = some (P ++ x :: W ++ R)
  | 0, W, P, x, R, k, hn, hr, hs, hk => by
    obtain ⟨k, rfl⟩ : ∃ k', k = k' + 1 := ⟨k - 1, by omega⟩
    have : W = [] := by simpa using hn
    subst this
    refine loop_end ?_
    have c : ¬ ((P.length : Int) > r) := by omega
    simp [symEnL3Step, c, T.val_ret]
  | n + 1, W, P, x, R, k, hn, hr, hs, hk => by
    obtain ⟨k, rfl⟩ : ∃ k', k = k' + 1 := ⟨k - 1, by omega⟩
    obtain ⟨W, y, rfl⟩ : ∃ S' y, W = S' ++ [y] := ⟨W.dropLast, W.getLast (by intro h; simp [h] at hn), (List.dropLast_concat_getLast _).symm⟩
    simp only [List.length_append, List.length_cons, List.length_nil] at hn hs
    have e1 : w64 ((P.length + (W ++ [y]).length : Nat) - 1 : Int) = ((P ++ W).length : Int) := by rw [w64_id] <;> (try simp) <;> omega
    have c : ((P.length + (W ++ [y]).length : Nat) : Int) > r := by simp; omega
    have d2 : P ++ (W ++ [y]) ++ x :: R = (P ++ W) ++ y :: (x :: R) := by simp
    have l1 : ((P.length + (W ++ [y]).length : Nat) : Int) = ((P ++ (W ++ [y])).length : Int) := by simp
    have r1 : rd (e := E) (P ++ (W ++ [y]) ++ x :: R) ((P.length + (W ++ [y]).length : Nat) : Int) = x := rd_at rfl l1
    have r2 : rd (e := E) (P ++ (W ++ [y]) ++ x :: R) (w64 ((P.length + (W ++ [y]).length : Nat) - 1 : Int)) = y := rd_at d2 e1
    have i1 := inR_at (e := E) (l := P ++ (W ++ [y]) ++ x :: R) rfl l1
    have i2 := inR_at (e := E) d2 e1
    have w1 : wr (e := E) (P ++ (W ++ [y]) ++ x :: R) ((P.length + (W ++ [y]).length : Nat) : Int) y = (P ++ (W ++ [y])) ++ y :: R := wr_at rfl l1
    have d3 : (P ++ (W ++ [y])) ++ y :: R = (P ++ W) ++ y :: (y :: R) := by simp
    have w2 : wr (e := E) ((P ++ (W ++ [y])) ++ y :: R) (w64 ((P.length + (W ++ [y]).length : Nat) - 1 : Int)) x = (P ++ W) ++ x :: (y :: R) := wr_at d3 e1
    have i3 := inR_at (e := E) d3 e1
    have ih := bwd_loop (r := r) n W P x (y :: R) k (by omega) hr (by simp; omega) (by omega)
    refine loop_step (s' := (((P.length + W.length : Nat) : Int), P ++ W ++ x :: (y :: R))) ?_ (ih.trans (by simp))
    simp only [symEnL3Step, rdE, wrE, c, decide_true, cond_true, i1, i2, r1, r2, w1, w2, i3, T.val_ret]
    rw [e1]
    simp
end SEn
end Go.Ax.Cd
/- The merge of two sorted blocks, and the whole sort, of edges' ends. -/
namespace Go.Ax.Cd
set_option linter.unusedVariables false
set_option maxRecDepth 100000
namespace SEn
set_option linter.unusedSimpArgs false
theorem rd_in {d L W R : List En} (h : d = L ++ W ++ R) {t : Nat} (ht : t < W.length) : rd (e := E) d ((L.length + t : Nat) : Int) = W[t] := by
  subst h
  rw [rd_ge (e := E) (by simp; omega)]
  rw [List.getElem_append_left (by simp; omega), List.getElem_append_right (by omega)]
  simp
theorem of_mem {l : List En} {x : En} (h : x ∈ l) : ∃ (i : Nat) (hi : i < l.length), l[i] = x := List.mem_iff_getElem.1 h
/-- One into what is sorted behind it. -/
theorem sym1 {rec : List En → Int → Int → Int → T (List En)} {a m b : Int} (P : List En) (x : En) (V Q : List En) (hV : Srt ky V) (ha : a = P.length) (hm : m = P.length + 1) (hb : b = P.length + 1 + V.length) (hs : (P ++ x :: V ++ Q).length ≤ 1000000) :
    (symEnTr rec a m b (P ++ x :: V ++ Q)).val = some (P ++ isort ky (x :: V) ++ Q) := by
  simp only [List.length_append, List.length_cons] at hs
  have c1 : (w64 (m - a) == 1) = true := by rw [w64_id] <;> (try simp) <;> omega
  let p : Nat → Bool := fun t => decide (ky (rd (e := E) (P ++ x :: V ++ Q) (t : Int)) < ky x)
  have hV' : ∀ t, t < V.length → ∀ (ht : t < V.length), rd (e := E) (P ++ x :: V ++ Q) ((P.length + 1 + t : Nat) : Int) = V[t] := fun t _ ht => by
    have := rd_in (d := P ++ x :: V ++ Q) (L := P ++ [x]) (W := V) (R := Q) (by simp) ht
    simpa using this
  obtain ⟨r, k1, k2, k3, k4, k5⟩ := bs_val (body := symEnL0Step a (P ++ x :: V ++ Q)) (p := p) (lo := P.length + 1) (hi := P.length + 1 + V.length) (fun i j h1 h2 h3 => by
    have hx : rd (e := E) (P ++ x :: V ++ Q) a = x := rd_at (e := E) (A := P) (R := V ++ Q) (by simp) ha
    have ix := inR_at (e := E) (l := P ++ x :: V ++ Q) (A := P) (x := x) (R := V ++ Q) (by simp) ha
    by_cases c : i < j
    · rw [if_pos c]
      have e1 : w64 (sh64 (w64u (w64 ((i : Int) + (j : Int)))) 1) = (((i + j) / 2 : Nat) : Int) := by rw [half] <;> omega
      have e2 : w64 ((((i + j) / 2 : Nat) : Int) + 1) = (((i + j) / 2 + 1 : Nat) : Int) := by rw [w64_id] <;> omega
      have ih := inR_ge (n := (P ++ x :: V ++ Q).length) (i := (i + j) / 2) (by simp; omega)
      obtain ⟨cv, q1, q2⟩ := cmp_val (rd (e := E) (P ++ x :: V ++ Q) (((i + j) / 2 : Nat) : Int)) x
      have cc : ((i : Int) < (j : Int)) := by omega
      have q3 : decide (cv < 0) = p ((i + j) / 2) := q2
      simp only [symEnL0Step, cc, decide_true, cond_true, e1, ih, ix, rdE, hx, T.val_bind, q1, Option.bind_some, q3, e2]
      cases p ((i + j) / 2) <;> rfl
    · rw [if_neg c]
      have cc : ¬ ((i : Int) < (j : Int)) := by omega
      simp only [symEnL0Step, cc, decide_false, cond_false, T.val_ret]) (fun s t h1 h2 h3 ht => by
    have ht' := of_decide_eq_true ht
    obtain ⟨s, rfl⟩ : ∃ s', s = P.length + 1 + s' := ⟨s - (P.length + 1), by omega⟩
    obtain ⟨t, rfl⟩ : ∃ t', t = P.length + 1 + t' := ⟨t - (P.length + 1), by omega⟩
    refine decide_eq_true ?_
    rw [hV' t (by omega) (by omega)] at ht'
    rw [hV' s (by omega) (by omega)]
    have := hV.idx (i := s) (j := t) (by omega) (by omega)
    omega) 4611686018427387904 (P.length + 1) (P.length + 1 + V.length) (by omega) (by omega) (by omega) (Nat.le_refl _) (fun t h1 h2 => by omega) (fun t h1 h2 => by omega)
  have hm1 : m = ((P.length + 1 : Nat) : Int) := by omega
  have hb1 : b = ((P.length + 1 + V.length : Nat) : Int) := by omega
  obtain ⟨V1, V2, rfl, hV1⟩ : ∃ V1 V2, V = V1 ++ V2 ∧ V1.length = r - (P.length + 1) := ⟨V.take (r - (P.length + 1)), V.drop (r - (P.length + 1)), by simp, by simp; omega⟩
  have lo1 : ∀ v ∈ V1, ky v < ky x := fun v hv => by
    obtain ⟨i, hi, rfl⟩ := of_mem hv
    have := of_decide_eq_true (k4 (P.length + 1 + i) (by omega) (by omega))
    rw [hV' i (by simp; omega) (by simp; omega), List.getElem_append_left hi] at this
    exact this
  have hi1 : ∀ v ∈ V2, ky x ≤ ky v := fun v hv => by
    obtain ⟨i, hi, rfl⟩ := of_mem hv
    have hl : (V1 ++ V2).length = V1.length + V2.length := by simp
    have := of_decide_eq_false (k5 (P.length + 1 + (V1.length + i)) (by omega) (by omega))
    rw [hV' (V1.length + i) (by omega) (by omega), List.getElem_append_right (by omega)] at this
    simp at this
    exact this
  have hv2 := List.pairwise_append.1 hV
  have hI : V1 ++ x :: V2 = isort ky (x :: (V1 ++ V2)) := isort_eq (Srt.app hv2.1 (List.pairwise_cons.2 ⟨hi1, hv2.2.1⟩) (fun u hu v hv => by
      rcases List.mem_cons.1 hv with rfl | hv
      · have := lo1 u hu; omega
      · exact hv2.2.2 u hu v hv)) (by
    have := SE.append (key := ky) (SE.swap (X := V1) (Y := [x]) (fun u hu v hv => by simp only [List.mem_singleton] at hv; subst hv; have := lo1 u hu; omega)) (SE.refl V2)
    simpa using this)
  have hf := fwd_loop (r := (r : Int)) V1 P x (V2 ++ Q) 4611686018427387904 (by omega) (by simp at hs ⊢; omega) (by omega)
  unfold symEnTr
  rw [c1, cond_true, T.val_bind, hm1, hb1, k1, Option.bind_some, T.val_bind]
  rw [show P ++ x :: (V1 ++ V2) ++ Q = P ++ x :: V1 ++ (V2 ++ Q) by simp, ha, hf, ← hI]
  simp [T.val_ret]
/-- One into what is sorted ahead of it. -/
theorem sym2 {rec : List En → Int → Int → Int → T (List En)} {a m b : Int} (P U : List En) (y : En) (Q : List En) (hU : Srt ky U) (hl : 1 < U.length) (ha : a = P.length) (hm : m = P.length + U.length) (hb : b = P.length + U.length + 1) (hs : (P ++ U ++ y :: Q).length ≤ 1000000) :
    (symEnTr rec a m b (P ++ U ++ y :: Q)).val = some (P ++ isort ky (U ++ [y]) ++ Q) := by
  simp only [List.length_append, List.length_cons] at hs
  have c1 : (w64 (m - a) == 1) = false := by rw [w64_id] <;> (try simp) <;> omega
  have c2 : (w64 (b - m) == 1) = true := by rw [w64_id] <;> (try simp) <;> omega
  let p : Nat → Bool := fun t => !decide (ky y < ky (rd (e := E) (P ++ U ++ y :: Q) (t : Int)))
  have hU' : ∀ t, t < U.length → ∀ (ht : t < U.length), rd (e := E) (P ++ U ++ y :: Q) ((P.length + t : Nat) : Int) = U[t] := fun t _ ht => rd_in rfl ht
  obtain ⟨r, k1, k2, k3, k4, k5⟩ := bs_val (body := symEnL2Step m (P ++ U ++ y :: Q)) (p := p) (lo := P.length) (hi := P.length + U.length) (fun i j h1 h2 h3 => by
    have hx : rd (e := E) (P ++ U ++ y :: Q) m = y := rd_at (e := E) (A := P ++ U) (R := Q) rfl (by simp; omega)
    have ix := inR_at (e := E) (l := P ++ U ++ y :: Q) (A := P ++ U) (x := y) (R := Q) (i := m) rfl (by simp; omega)
    by_cases c : i < j
    · rw [if_pos c]
      have e1 : w64 (sh64 (w64u (w64 ((i : Int) + (j : Int)))) 1) = (((i + j) / 2 : Nat) : Int) := by rw [half] <;> omega
      have e2 : w64 ((((i + j) / 2 : Nat) : Int) + 1) = (((i + j) / 2 + 1 : Nat) : Int) := by rw [w64_id] <;> omega
      have ih := inR_ge (n := (P ++ U ++ y :: Q).length) (i := (i + j) / 2) (by simp; omega)
      obtain ⟨cv, q1, q2⟩ := cmp_val y (rd (e := E) (P ++ U ++ y :: Q) (((i + j) / 2 : Nat) : Int))
      have cc : ((i : Int) < (j : Int)) := by omega
      have q3 : (!decide (cv < 0)) = p ((i + j) / 2) := by rw [q2]
      simp only [symEnL2Step, cc, decide_true, cond_true, e1, ih, ix, rdE, hx, T.val_bind, q1, Option.bind_some, q3, e2]
      cases p ((i + j) / 2) <;> rfl
    · rw [if_neg c]
      have cc : ¬ ((i : Int) < (j : Int)) := by omega
      simp only [symEnL2Step, cc, decide_false, cond_false, T.val_ret]) (fun s t h1 h2 h3 ht => by
    obtain ⟨s, rfl⟩ : ∃ s', s = P.length + s' := ⟨s - P.length, by omega⟩
    obtain ⟨t, rfl⟩ : ∃ t', t = P.length + t' := ⟨t - P.length, by omega⟩
    simp only [p, Bool.not_eq_true', decide_eq_false_iff_not] at ht ⊢
    rw [hU' t (by omega) (by omega)] at ht
    rw [hU' s (by omega) (by omega)]
    have := hU.idx (i := s) (j := t) (by omega) (by omega)
    omega) 4611686018427387904 P.length (P.length + U.length) (by omega) (by omega) (by omega) (Nat.le_refl _) (fun t h1 h2 => by omega) (fun t h1 h2 => by omega)
  have hm1 : m = ((P.length + U.length : Nat) : Int) := by omega
  obtain ⟨U1, U2, rfl, hU1⟩ : ∃ U1 U2, U = U1 ++ U2 ∧ U1.length = r - P.length := ⟨U.take (r - P.length), U.drop (r - P.length), by simp, by simp; omega⟩
  have hl2 : (U1 ++ U2).length = U1.length + U2.length := by simp
  have lo1 : ∀ v ∈ U1, ky v ≤ ky y := fun v hv => by
    obtain ⟨i, hi, rfl⟩ := of_mem hv
    have := k4 (P.length + i) (by omega) (by omega)
    simp only [p, Bool.not_eq_true', decide_eq_false_iff_not] at this
    rw [hU' i (by omega) (by omega), List.getElem_append_left hi] at this
    omega
  have hi1 : ∀ v ∈ U2, ky y < ky v := fun v hv => by
    obtain ⟨i, hi, rfl⟩ := of_mem hv
    have := k5 (P.length + (U1.length + i)) (by omega) (by omega)
    simp only [p, Bool.not_eq_false', decide_eq_true_eq] at this
    rw [hU' (U1.length + i) (by omega) (by omega), List.getElem_append_right (by omega)] at this
    simp at this
    exact this
  have hu2 := List.pairwise_append.1 hU
  have hI : U1 ++ y :: U2 = isort ky ((U1 ++ U2) ++ [y]) := isort_eq (Srt.app hu2.1 (List.pairwise_cons.2 ⟨fun v hv => by have := hi1 v hv; omega, hu2.2.1⟩) (fun u hu v hv => by
      rcases List.mem_cons.1 hv with rfl | hv
      · exact lo1 u hu
      · exact hu2.2.2 u hu v hv)) (by
    have := SE.append (key := ky) (SE.refl U1) (SE.swap (X := [y]) (Y := U2) (fun u hu v hv => by simp only [List.mem_singleton] at hu; subst hu; have := hi1 v hv; omega))
    simpa using this)
  have hf := bwd_loop (r := (r : Int)) U2.length U2 (P ++ U1) y Q 4611686018427387904 rfl (by simp; omega) (by simp at hs ⊢; omega) (by omega)
  unfold symEnTr
  rw [hm1] at k1
  rw [c1, cond_false, c2, cond_true, T.val_bind, ha, hm1, k1, Option.bind_some, T.val_bind]
  rw [show ((P.length + (U1 ++ U2).length : Nat) : Int) = (((P ++ U1).length + U2.length : Nat) : Int) by simp; omega, show P ++ (U1 ++ U2) ++ y :: Q = P ++ U1 ++ U2 ++ y :: Q by simp, hf, ← hI]
  simp [T.val_ret]
/-- How the general case goes on. -/
theorem sym_gen {rec : List En → Int → Int → Int → T (List En)} {a m b mid e s x0 : Int} {d d1 d2 d3 : List En} (c1 : (w64 (m - a) == 1) = false) (c2 : (w64 (b - m) == 1) = false) (hmid : w64 (sh64 (w64u (w64 (a + b))) 1) = mid)
    (he : w64 (w64 (mid + m) - x0) = e)
    (hl : (if m > mid then (T.loop (symEnL4Step a m b mid (w64 (mid + m)) (w64 (w64 (mid + m) - 1)) d) 4611686018427387904 (w64 (w64 (mid + m) - b), mid)).val else (T.loop (symEnL4Step a m b mid (w64 (mid + m)) (w64 (w64 (mid + m) - 1)) d) 4611686018427387904 (a, m)).val) = some x0)
    (s1 : if x0 < m ∧ m < e then (rotEnTr x0 m e d).val = some d1 else d1 = d)
    (s2 : if a < x0 ∧ x0 < mid then (rec d1 a x0 mid).val = some d2 else d2 = d1)
    (s3 : if mid < e ∧ e < b then (rec d2 mid e b).val = some d3 else d3 = d2) : (symEnTr rec a m b d).val = some d3 := by
  unfold symEnTr
  simp only [c1, c2, cond_false, hmid]
  have key : ∀ (t : T Int) (K : Int → T (List En)), t.val = some x0 → (K x0).val = some d3 → (t.bind K).val = some d3 := fun t K h1 h2 => by rw [T.val_bind, h1]; exact h2
  by_cases c : m > mid
  · rw [if_pos c] at hl
    simp only [c, decide_true, cond_true]
    refine key _ _ hl ?_
    simp only [he]
    clear hl c1 c2 hmid he key
    by_cases h1 : x0 < m <;> by_cases h2 : m < e <;> by_cases h3 : a < x0 <;> by_cases h4 : x0 < mid <;> by_cases h5 : mid < e <;> by_cases h6 : e < b <;>
      simp_all only [and_self, and_false, false_and, if_true, if_false, decide_true, decide_false, cond_true, cond_false, T.val_bind, Option.bind_some, T.val_ret, and_true, true_and]
  · rw [if_neg c] at hl
    simp only [c, decide_false, cond_false]
    refine key _ _ hl ?_
    simp only [he]
    clear hl c1 c2 hmid he key
    by_cases h1 : x0 < m <;> by_cases h2 : m < e <;> by_cases h3 : a < x0 <;> by_cases h4 : x0 < mid <;> by_cases h5 : mid < e <;> by_cases h6 : e < b <;>
      simp_all only [and_self, and_false, false_and, if_true, if_false, decide_true, decide_false, cond_true, cond_false, T.val_bind, Option.bind_some, T.val_ret, and_true, true_and]
end SEn
end Go.Ax.Cd
