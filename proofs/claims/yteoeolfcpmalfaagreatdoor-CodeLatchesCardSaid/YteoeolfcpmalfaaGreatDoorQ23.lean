/- The package code by contracts (printed by wip/tools/con3.py). -/
import Derived.Test.YteoeolfcpmalfaaGreatDoorQ22
namespace Go.Ax.Cd
open Go.Proofs
set_option linter.unusedVariables false
set_option maxRecDepth 100000
abbrev cdw2q0 : List OSh := [.arr (.st .en)]
@[reducible] def symREnI (rec : List En → Int → Int → Int → T (List En)) : PIf (VhL [.s (.own 0), vi, vi, vi, .clo 98 []] × OShL cdw2q0) (VhL [] × OShL cdw2q0) where
  α := List En
  tr x := rec x.2.1 x.1.2.1 x.1.2.2.1 x.1.2.2.2.1
  enc x a := ((), (a, ()))
abbrev symEnL4vs : List Vh := [.s (.ownC 0), vi, vi, vi, .clo 98 [], vi, vi, vi, vi, vi]
abbrev symEnL4os : List OSh := cdw2q0
noncomputable abbrev symEnL4fin : Fin := (Fin.one 1 Tryz.f124.ntmps (.exit 8) [0, 1, 2, 3, 4, 18, 19, 20] [.s (.ownC 0), vi, vi, vi, .clo 98 [], vi, vi, vi] cdw2q0)
def symEnL4Step (v1 : Int) (v2 : Int) (v3 : Int) (v4 : Int) (v5 : Int) (v8 : Int) (d : List En) (st : Int × Int) : T ((Int × Int) ⊕ (Int)) :=
 let v6 := st.1
 let v7 := st.2
 bif decide (v6 < v7) then
 bif inR (w64 (v8 - w64 (sh64 (w64u (w64 (v6 + v7))) 1))) d.length then
 bif inR (w64 (sh64 (w64u (w64 (v6 + v7))) 1)) d.length then
 (cmpEnTr (rdE (EK.st SN.en) d (w64 (v8 - w64 (sh64 (w64u (w64 (v6 + v7))) 1)))) (rdE (EK.st SN.en) d (w64 (sh64 (w64u (w64 (v6 + v7))) 1)))).bind fun x0 =>
 bif !decide (x0 < 0) then
 .ret (Sum.inl (w64 (w64 (sh64 (w64u (w64 (v6 + v7))) 1) + 1), v7))
 else
 .ret (Sum.inl (v6, w64 (sh64 (w64u (w64 (v6 + v7))) 1)))
 else
 .bot
 else
 .bot
 else
 .ret (Sum.inr v6)
@[reducible] def symEnL4I : PIf (VhL symEnL4vs × OShL symEnL4os) symEnL4fin.Y where
  α := Int
  tr x := T.loop (symEnL4Step x.1.2.1 x.1.2.2.1 x.1.2.2.2.1 x.1.2.2.2.2.2.1 x.1.2.2.2.2.2.2.1 x.1.2.2.2.2.2.2.2.2.2.1 x.2.1) FU (x.1.2.2.2.2.2.2.2.1, x.1.2.2.2.2.2.2.2.2.1)
  enc x a := ((x.1.1, x.1.2.1, x.1.2.2.1, x.1.2.2.2.1, (), x.1.2.2.2.2.2.1, x.1.2.2.2.2.2.2.1, a, ()), (x.2.1, ()))
theorem symEnL4_raw (sp_cmpEn : cmpEn_T) (sp_rotEn : rotEn_T) (sp_symREn : VhL [.s (.own 0), vi, vi, vi, .clo 98 []] × OShL cdw2q0 → Option (VhL [] × OShL cdw2q0)) (v0 : Value) (v1 : Int) (v2 : Int) (v3 : Int) (v4 : Int) (v5 : Int) (v6 : Int) (v7 : Int) (v8 : Int) (d : List En) : runW 1 Tryz.f124 4 [0, 1, 2, 3, 4, 18, 19, 20, 21, 22] symEnL4vs symEnL4os symEnL4fin [(98, cmpEn_C sp_cmpEn), (130, rotEn_C sp_rotEn), (124, Con.fx [vi, vi, vi, .clo 98 []] cdw2q0 [] cdw2q0 sp_symREn)] [] [] (((v0, v1, v2, v3, (), v4, v5, v6, v7, v8, ()), (d, ())) : VhL symEnL4vs × OShL symEnL4os) = (bif decide (v6 < v7) then bif inR (w64 (v8 - w64 (sh64 (w64u (w64 (v6 + v7))) 1))) d.length then bif inR (w64 (sh64 (w64u (w64 (v6 + v7))) 1)) d.length then (sp_cmpEn ((rdE (EK.st SN.en) d (w64 (v8 - w64 (sh64 (w64u (w64 (v6 + v7))) 1))), rdE (EK.st SN.en) d (w64 (sh64 (w64u (w64 (v6 + v7))) 1)), ()), ())).bind fun val => bif !decide (val.1.1 < 0) then some (Sum.inl ((v0, v1, v2, v3, (), v4, v5, w64 (w64 (sh64 (w64u (w64 (v6 + v7))) 1) + 1), v7, v8, ()), d, ())) else some (Sum.inl ((v0, v1, v2, v3, (), v4, v5, v6, w64 (sh64 (w64u (w64 (v6 + v7))) 1), v8, ()), d, ())) else none else none
else some (Sum.inr ((v0, v1, v2, v3, (), v4, v5, v6, ()), d, ()))) := by kernel_rfl
theorem symEnL4_ok {rec : List En → Int → Int → Int → T (List En)} (symREn_ok : Sound Tryz.prog gl 124 (Con.fx [vi, vi, vi, .clo 98 []] cdw2q0 [] cdw2q0 (PIf.spec (symREnI rec)))) : LOk Tryz.prog gl 1 (LCon.of Tryz.f124.ntmps [0, 1, 2, 3, 4, 18, 19, 20, 21, 22] symEnL4vs symEnL4os symEnL4fin (PIf.spec symEnL4I)) (getL (body Tryz.f124) 4) := by
  refine lwk (Lc := []) (nh := []) (G := [(98, cmpEn_C (PIf.spec cmpEnI)), (130, rotEn_C (PIf.spec rotEnI)), (124, Con.fx [vi, vi, vi, .clo 98 []] cdw2q0 [] cdw2q0 (PIf.spec (symREnI rec)))]) (GOk.cons cmpEn_g cmpEn_ok (GOk.cons rotEn_g rotEn_ok (GOk.cons ⟨Tryz.f124, body Tryz.f124, by kernel_rfl, by kernel_rfl, by kernel_rfl⟩ symREn_ok (GOk.nil)))) (noloopN (by kernel_rfl)) (Fin.one_ok _ _ _ _) ?_
  rintro ⟨⟨v0, v1, v2, v3, _, v4, v5, v6, v7, v8, _⟩, ⟨d, _⟩⟩ y hy
  refine ⟨_, loopP_ok (eX := fun (st : Int × Int) => (let v6 := st.1; let v7 := st.2; ((v0, v1, v2, v3, (), v4, v5, v6, v7, v8, ()), (d, ())) : VhL symEnL4vs × OShL symEnL4os)) (body := symEnL4Step v1 v2 v3 v4 v5 v8 d) (fun st => ?_) _ (v6, v7) y hy⟩
  obtain ⟨v6, v7⟩ := st
  refine (symEnL4_raw (PIf.spec cmpEnI) (PIf.spec rotEnI) (PIf.spec (symREnI rec)) v0 v1 v2 v3 v4 v5 v6 v7 v8 d).trans ?_
  unfold symEnL4Step
  repeat' (first | refine cond_outP (fun _ => ?_) (fun _ => ?_) | (refine bindP (fun _ => ?_); try dsimp only [selim, cond_true, cond_false, Bool.not_true, Bool.not_false, one, mI, cmpEnI, rotEnI, symREnI]) | rfl)
abbrev symEnL3vs : List Vh := [.s (.ownC 0), vi, vi]
abbrev symEnL3os : List OSh := cdw2q0
noncomputable abbrev symEnL3fin : Fin := (Fin.one 1 Tryz.f124.ntmps (.exit 6) [0] [.s (.ownC 0)] cdw2q0)
def symEnL3Step (v1 : Int) (st : Int × List En) : T ((Int × List En) ⊕ (List En)) :=
 let v2 := st.1
 let d := st.2
 bif decide (v2 > v1) then
 bif inR (w64 (v2 - 1)) d.length then
 bif inR v2 d.length then
 bif inR v2 d.length then
 bif inR (w64 (v2 - 1)) (wrE (EK.st SN.en) d v2 (rdE (EK.st SN.en) d (w64 (v2 - 1)))).length then
 .ret (Sum.inl (w64 (v2 - 1), wrE (EK.st SN.en) (wrE (EK.st SN.en) d v2 (rdE (EK.st SN.en) d (w64 (v2 - 1)))) (w64 (v2 - 1)) (rdE (EK.st SN.en) d v2)))
 else
 .bot
 else
 .bot
 else
 .bot
 else
 .bot
 else
 .ret (Sum.inr d)
@[reducible] def symEnL3I : PIf (VhL symEnL3vs × OShL symEnL3os) symEnL3fin.Y where
  α := List En
  tr x := T.loop (symEnL3Step x.1.2.1) FU (x.1.2.2.1, x.2.1)
  enc x a := ((x.1.1, ()), (a, ()))
theorem symEnL3_raw (sp_cmpEn : cmpEn_T) (sp_rotEn : rotEn_T) (sp_symREn : VhL [.s (.own 0), vi, vi, vi, .clo 98 []] × OShL cdw2q0 → Option (VhL [] × OShL cdw2q0)) (v0 : Value) (v1 : Int) (v2 : Int) (d : List En) : runW 1 Tryz.f124 3 [0, 14, 17] symEnL3vs symEnL3os symEnL3fin [(98, cmpEn_C sp_cmpEn), (130, rotEn_C sp_rotEn), (124, Con.fx [vi, vi, vi, .clo 98 []] cdw2q0 [] cdw2q0 sp_symREn)] [] [] (((v0, v1, v2, ()), (d, ())) : VhL symEnL3vs × OShL symEnL3os) = (bif decide (v2 > v1) then bif inR (w64 (v2 - 1)) d.length then bif inR v2 d.length then bif inR v2 d.length then bif inR (w64 (v2 - 1)) (wrE (EK.st SN.en) d v2 (rdE (EK.st SN.en) d (w64 (v2 - 1)))).length then some (Sum.inl ((v0, v1, w64 (v2 - 1), ()), wrE (EK.st SN.en) (wrE (EK.st SN.en) d v2 (rdE (EK.st SN.en) d (w64 (v2 - 1)))) (w64 (v2 - 1)) (rdE (EK.st SN.en) d v2), ())) else none else none else none else none
else some (Sum.inr ((v0, ()), d, ()))) := by kernel_rfl
theorem symEnL3_ok {rec : List En → Int → Int → Int → T (List En)} (symREn_ok : Sound Tryz.prog gl 124 (Con.fx [vi, vi, vi, .clo 98 []] cdw2q0 [] cdw2q0 (PIf.spec (symREnI rec)))) : LOk Tryz.prog gl 1 (LCon.of Tryz.f124.ntmps [0, 14, 17] symEnL3vs symEnL3os symEnL3fin (PIf.spec symEnL3I)) (getL (body Tryz.f124) 3) := by
  refine lwk (Lc := []) (nh := []) (G := [(98, cmpEn_C (PIf.spec cmpEnI)), (130, rotEn_C (PIf.spec rotEnI)), (124, Con.fx [vi, vi, vi, .clo 98 []] cdw2q0 [] cdw2q0 (PIf.spec (symREnI rec)))]) (GOk.cons cmpEn_g cmpEn_ok (GOk.cons rotEn_g rotEn_ok (GOk.cons ⟨Tryz.f124, body Tryz.f124, by kernel_rfl, by kernel_rfl, by kernel_rfl⟩ symREn_ok (GOk.nil)))) (noloopN (by kernel_rfl)) (Fin.one_ok _ _ _ _) ?_
  rintro ⟨⟨v0, v1, v2, _⟩, ⟨d, _⟩⟩ y hy
  refine ⟨_, loopP_ok (eX := fun (st : Int × List En) => (let v2 := st.1; let d := st.2; ((v0, v1, v2, ()), (d, ())) : VhL symEnL3vs × OShL symEnL3os)) (body := symEnL3Step v1) (fun st => ?_) _ (v2, d) y hy⟩
  obtain ⟨v2, d⟩ := st
  refine (symEnL3_raw (PIf.spec cmpEnI) (PIf.spec rotEnI) (PIf.spec (symREnI rec)) v0 v1 v2 d).trans ?_
  unfold symEnL3Step
  repeat' (first | refine cond_outP (fun _ => ?_) (fun _ => ?_) | rfl)
abbrev symEnL2vs : List Vh := [.s (.ownC 0), vi, .clo 98 [], vi, vi]
abbrev symEnL2os : List OSh := cdw2q0
noncomputable abbrev symEnL2fin : Fin := (Fin.one 1 Tryz.f124.ntmps (.exit 4) [0, 2, 14] [.s (.ownC 0), vi, vi] cdw2q0)
def symEnL2Step (v1 : Int) (d : List En) (st : Int × Int) : T ((Int × Int) ⊕ (Int)) :=
 let v2 := st.1
 let v3 := st.2
 bif decide (v2 < v3) then
 bif inR v1 d.length then
 bif inR (w64 (sh64 (w64u (w64 (v2 + v3))) 1)) d.length then
 (cmpEnTr (rdE (EK.st SN.en) d v1) (rdE (EK.st SN.en) d (w64 (sh64 (w64u (w64 (v2 + v3))) 1)))).bind fun x0 =>
 bif !decide (x0 < 0) then
 .ret (Sum.inl (w64 (w64 (sh64 (w64u (w64 (v2 + v3))) 1) + 1), v3))
 else
 .ret (Sum.inl (v2, w64 (sh64 (w64u (w64 (v2 + v3))) 1)))
 else
 .bot
 else
 .bot
 else
 .ret (Sum.inr v2)
@[reducible] def symEnL2I : PIf (VhL symEnL2vs × OShL symEnL2os) symEnL2fin.Y where
  α := Int
  tr x := T.loop (symEnL2Step x.1.2.1 x.2.1) FU (x.1.2.2.2.1, x.1.2.2.2.2.1)
  enc x a := ((x.1.1, x.1.2.1, a, ()), (x.2.1, ()))
theorem symEnL2_raw (sp_cmpEn : cmpEn_T) (sp_rotEn : rotEn_T) (sp_symREn : VhL [.s (.own 0), vi, vi, vi, .clo 98 []] × OShL cdw2q0 → Option (VhL [] × OShL cdw2q0)) (v0 : Value) (v1 : Int) (v2 : Int) (v3 : Int) (d : List En) : runW 1 Tryz.f124 2 [0, 2, 4, 14, 15] symEnL2vs symEnL2os symEnL2fin [(98, cmpEn_C sp_cmpEn), (130, rotEn_C sp_rotEn), (124, Con.fx [vi, vi, vi, .clo 98 []] cdw2q0 [] cdw2q0 sp_symREn)] [] [] (((v0, v1, (), v2, v3, ()), (d, ())) : VhL symEnL2vs × OShL symEnL2os) = (bif decide (v2 < v3) then bif inR v1 d.length then bif inR (w64 (sh64 (w64u (w64 (v2 + v3))) 1)) d.length then (sp_cmpEn ((rdE (EK.st SN.en) d v1, rdE (EK.st SN.en) d (w64 (sh64 (w64u (w64 (v2 + v3))) 1)), ()), ())).bind fun val => bif !decide (val.1.1 < 0) then some (Sum.inl ((v0, v1, (), w64 (w64 (sh64 (w64u (w64 (v2 + v3))) 1) + 1), v3, ()), d, ())) else some (Sum.inl ((v0, v1, (), v2, w64 (sh64 (w64u (w64 (v2 + v3))) 1), ()), d, ())) else none else none
else some (Sum.inr ((v0, v1, v2, ()), d, ()))) := by kernel_rfl
theorem symEnL2_ok {rec : List En → Int → Int → Int → T (List En)} (symREn_ok : Sound Tryz.prog gl 124 (Con.fx [vi, vi, vi, .clo 98 []] cdw2q0 [] cdw2q0 (PIf.spec (symREnI rec)))) : LOk Tryz.prog gl 1 (LCon.of Tryz.f124.ntmps [0, 2, 4, 14, 15] symEnL2vs symEnL2os symEnL2fin (PIf.spec symEnL2I)) (getL (body Tryz.f124) 2) := by
  refine lwk (Lc := []) (nh := []) (G := [(98, cmpEn_C (PIf.spec cmpEnI)), (130, rotEn_C (PIf.spec rotEnI)), (124, Con.fx [vi, vi, vi, .clo 98 []] cdw2q0 [] cdw2q0 (PIf.spec (symREnI rec)))]) (GOk.cons cmpEn_g cmpEn_ok (GOk.cons rotEn_g rotEn_ok (GOk.cons ⟨Tryz.f124, body Tryz.f124, by kernel_rfl, by kernel_rfl, by kernel_rfl⟩ symREn_ok (GOk.nil)))) (noloopN (by kernel_rfl)) (Fin.one_ok _ _ _ _) ?_
  rintro ⟨⟨v0, v1, _, v2, v3, _⟩, ⟨d, _⟩⟩ y hy
  refine ⟨_, loopP_ok (eX := fun (st : Int × Int) => (let v2 := st.1; let v3 := st.2; ((v0, v1, (), v2, v3, ()), (d, ())) : VhL symEnL2vs × OShL symEnL2os)) (body := symEnL2Step v1 d) (fun st => ?_) _ (v2, v3) y hy⟩
  obtain ⟨v2, v3⟩ := st
  refine (symEnL2_raw (PIf.spec cmpEnI) (PIf.spec rotEnI) (PIf.spec (symREnI rec)) v0 v1 v2 v3 d).trans ?_
  unfold symEnL2Step
  repeat' (first | refine cond_outP (fun _ => ?_) (fun _ => ?_) | (refine bindP (fun _ => ?_); try dsimp only [selim, cond_true, cond_false, Bool.not_true, Bool.not_false, one, mI, cmpEnI, rotEnI, symREnI]) | rfl)
abbrev symEnL1vs : List Vh := [.s (.ownC 0), vi, vi]
abbrev symEnL1os : List OSh := cdw2q0
noncomputable abbrev symEnL1fin : Fin := (Fin.one 1 Tryz.f124.ntmps (.exit 2) [0] [.s (.ownC 0)] cdw2q0)
def symEnL1Step (v1 : Int) (st : Int × List En) : T ((Int × List En) ⊕ (List En)) :=
 let v2 := st.1
 let d := st.2
 bif decide (v2 < w64 (v1 - 1)) then
 bif inR (w64 (v2 + 1)) d.length then
 bif inR v2 d.length then
 bif inR v2 d.length then
 bif inR (w64 (v2 + 1)) (wrE (EK.st SN.en) d v2 (rdE (EK.st SN.en) d (w64 (v2 + 1)))).length then
 .ret (Sum.inl (w64 (v2 + 1), wrE (EK.st SN.en) (wrE (EK.st SN.en) d v2 (rdE (EK.st SN.en) d (w64 (v2 + 1)))) (w64 (v2 + 1)) (rdE (EK.st SN.en) d v2)))
 else
 .bot
 else
 .bot
 else
 .bot
 else
 .bot
 else
 .ret (Sum.inr d)
@[reducible] def symEnL1I : PIf (VhL symEnL1vs × OShL symEnL1os) symEnL1fin.Y where
  α := List En
  tr x := T.loop (symEnL1Step x.1.2.1) FU (x.1.2.2.1, x.2.1)
  enc x a := ((x.1.1, ()), (a, ()))
theorem symEnL1_raw (sp_cmpEn : cmpEn_T) (sp_rotEn : rotEn_T) (sp_symREn : VhL [.s (.own 0), vi, vi, vi, .clo 98 []] × OShL cdw2q0 → Option (VhL [] × OShL cdw2q0)) (v0 : Value) (v1 : Int) (v2 : Int) (d : List En) : runW 1 Tryz.f124 1 [0, 10, 13] symEnL1vs symEnL1os symEnL1fin [(98, cmpEn_C sp_cmpEn), (130, rotEn_C sp_rotEn), (124, Con.fx [vi, vi, vi, .clo 98 []] cdw2q0 [] cdw2q0 sp_symREn)] [] [] (((v0, v1, v2, ()), (d, ())) : VhL symEnL1vs × OShL symEnL1os) = (bif decide (v2 < w64 (v1 - 1)) then bif inR (w64 (v2 + 1)) d.length then bif inR v2 d.length then bif inR v2 d.length then bif inR (w64 (v2 + 1)) (wrE (EK.st SN.en) d v2 (rdE (EK.st SN.en) d (w64 (v2 + 1)))).length then some (Sum.inl ((v0, v1, w64 (v2 + 1), ()), wrE (EK.st SN.en) (wrE (EK.st SN.en) d v2 (rdE (EK.st SN.en) d (w64 (v2 + 1)))) (w64 (v2 + 1)) (rdE (EK.st SN.en) d v2), ())) else none else none else none else none
else some (Sum.inr ((v0, ()), d, ()))) := by kernel_rfl
theorem symEnL1_ok {rec : List En → Int → Int → Int → T (List En)} (symREn_ok : Sound Tryz.prog gl 124 (Con.fx [vi, vi, vi, .clo 98 []] cdw2q0 [] cdw2q0 (PIf.spec (symREnI rec)))) : LOk Tryz.prog gl 1 (LCon.of Tryz.f124.ntmps [0, 10, 13] symEnL1vs symEnL1os symEnL1fin (PIf.spec symEnL1I)) (getL (body Tryz.f124) 1) := by
  refine lwk (Lc := []) (nh := []) (G := [(98, cmpEn_C (PIf.spec cmpEnI)), (130, rotEn_C (PIf.spec rotEnI)), (124, Con.fx [vi, vi, vi, .clo 98 []] cdw2q0 [] cdw2q0 (PIf.spec (symREnI rec)))]) (GOk.cons cmpEn_g cmpEn_ok (GOk.cons rotEn_g rotEn_ok (GOk.cons ⟨Tryz.f124, body Tryz.f124, by kernel_rfl, by kernel_rfl, by kernel_rfl⟩ symREn_ok (GOk.nil)))) (noloopN (by kernel_rfl)) (Fin.one_ok _ _ _ _) ?_
  rintro ⟨⟨v0, v1, v2, _⟩, ⟨d, _⟩⟩ y hy
  refine ⟨_, loopP_ok (eX := fun (st : Int × List En) => (let v2 := st.1; let d := st.2; ((v0, v1, v2, ()), (d, ())) : VhL symEnL1vs × OShL symEnL1os)) (body := symEnL1Step v1) (fun st => ?_) _ (v2, d) y hy⟩
  obtain ⟨v2, d⟩ := st
  refine (symEnL1_raw (PIf.spec cmpEnI) (PIf.spec rotEnI) (PIf.spec (symREnI rec)) v0 v1 v2 d).trans ?_
  unfold symEnL1Step
  repeat' (first | refine cond_outP (fun _ => ?_) (fun _ => ?_) | rfl)
abbrev symEnL0vs : List Vh := [.s (.ownC 0), vi, .clo 98 [], vi, vi]
abbrev symEnL0os : List OSh := cdw2q0
noncomputable abbrev symEnL0fin : Fin := (Fin.one 1 Tryz.f124.ntmps (.exit 0) [0, 1, 10] [.s (.ownC 0), vi, vi] cdw2q0)
def symEnL0Step (v1 : Int) (d : List En) (st : Int × Int) : T ((Int × Int) ⊕ (Int)) :=
 let v2 := st.1
 let v3 := st.2
 bif decide (v2 < v3) then
 bif inR (w64 (sh64 (w64u (w64 (v2 + v3))) 1)) d.length then
 bif inR v1 d.length then
 (cmpEnTr (rdE (EK.st SN.en) d (w64 (sh64 (w64u (w64 (v2 + v3))) 1))) (rdE (EK.st SN.en) d v1)).bind fun x0 =>
 bif decide (x0 < 0) then
 .ret (Sum.inl (w64 (w64 (sh64 (w64u (w64 (v2 + v3))) 1) + 1), v3))
 else
 .ret (Sum.inl (v2, w64 (sh64 (w64u (w64 (v2 + v3))) 1)))
 else
 .bot
 else
 .bot
 else
 .ret (Sum.inr v2)
@[reducible] def symEnL0I : PIf (VhL symEnL0vs × OShL symEnL0os) symEnL0fin.Y where
  α := Int
  tr x := T.loop (symEnL0Step x.1.2.1 x.2.1) FU (x.1.2.2.2.1, x.1.2.2.2.2.1)
  enc x a := ((x.1.1, x.1.2.1, a, ()), (x.2.1, ()))
theorem symEnL0_raw (sp_cmpEn : cmpEn_T) (sp_rotEn : rotEn_T) (sp_symREn : VhL [.s (.own 0), vi, vi, vi, .clo 98 []] × OShL cdw2q0 → Option (VhL [] × OShL cdw2q0)) (v0 : Value) (v1 : Int) (v2 : Int) (v3 : Int) (d : List En) : runW 1 Tryz.f124 0 [0, 1, 4, 10, 11] symEnL0vs symEnL0os symEnL0fin [(98, cmpEn_C sp_cmpEn), (130, rotEn_C sp_rotEn), (124, Con.fx [vi, vi, vi, .clo 98 []] cdw2q0 [] cdw2q0 sp_symREn)] [] [] (((v0, v1, (), v2, v3, ()), (d, ())) : VhL symEnL0vs × OShL symEnL0os) = (bif decide (v2 < v3) then bif inR (w64 (sh64 (w64u (w64 (v2 + v3))) 1)) d.length then bif inR v1 d.length then (sp_cmpEn ((rdE (EK.st SN.en) d (w64 (sh64 (w64u (w64 (v2 + v3))) 1)), rdE (EK.st SN.en) d v1, ()), ())).bind fun val => bif decide (val.1.1 < 0) then some (Sum.inl ((v0, v1, (), w64 (w64 (sh64 (w64u (w64 (v2 + v3))) 1) + 1), v3, ()), d, ())) else some (Sum.inl ((v0, v1, (), v2, w64 (sh64 (w64u (w64 (v2 + v3))) 1), ()), d, ())) else none else none
else some (Sum.inr ((v0, v1, v2, ()), d, ()))) := by kernel_rfl
theorem symEnL0_ok {rec : List En → Int → Int → Int → T (List En)} (symREn_ok : Sound Tryz.prog gl 124 (Con.fx [vi, vi, vi, .clo 98 []] cdw2q0 [] cdw2q0 (PIf.spec (symREnI rec)))) : LOk Tryz.prog gl 1 (LCon.of Tryz.f124.ntmps [0, 1, 4, 10, 11] symEnL0vs symEnL0os symEnL0fin (PIf.spec symEnL0I)) (getL (body Tryz.f124) 0) := by
  refine lwk (Lc := []) (nh := []) (G := [(98, cmpEn_C (PIf.spec cmpEnI)), (130, rotEn_C (PIf.spec rotEnI)), (124, Con.fx [vi, vi, vi, .clo 98 []] cdw2q0 [] cdw2q0 (PIf.spec (symREnI rec)))]) (GOk.cons cmpEn_g cmpEn_ok (GOk.cons rotEn_g rotEn_ok (GOk.cons ⟨Tryz.f124, body Tryz.f124, by kernel_rfl, by kernel_rfl, by kernel_rfl⟩ symREn_ok (GOk.nil)))) (noloopN (by kernel_rfl)) (Fin.one_ok _ _ _ _) ?_
  rintro ⟨⟨v0, v1, _, v2, v3, _⟩, ⟨d, _⟩⟩ y hy
  refine ⟨_, loopP_ok (eX := fun (st : Int × Int) => (let v2 := st.1; let v3 := st.2; ((v0, v1, (), v2, v3, ()), (d, ())) : VhL symEnL0vs × OShL symEnL0os)) (body := symEnL0Step v1 d) (fun st => ?_) _ (v2, v3) y hy⟩
  obtain ⟨v2, v3⟩ := st
  refine (symEnL0_raw (PIf.spec cmpEnI) (PIf.spec rotEnI) (PIf.spec (symREnI rec)) v0 v1 v2 v3 d).trans ?_
  unfold symEnL0Step
  repeat' (first | refine cond_outP (fun _ => ?_) (fun _ => ?_) | (refine bindP (fun _ => ?_); try dsimp only [selim, cond_true, cond_false, Bool.not_true, Bool.not_false, one, mI, cmpEnI, rotEnI, symREnI]) | rfl)
def symEnTr (rec : List En → Int → Int → Int → T (List En)) (a : Int) (m : Int) (b : Int) (d : List En) : T (List En) :=
 bif w64 (m - a) == 1 then
 (T.loop (symEnL0Step a d) 4611686018427387904 (m, b)).bind fun x0 =>
 (T.loop (symEnL1Step x0) 4611686018427387904 (a, d)).bind fun x1 =>
 .ret x1
 else
 bif w64 (b - m) == 1 then
 (T.loop (symEnL2Step m d) 4611686018427387904 (a, m)).bind fun x0 =>
 (T.loop (symEnL3Step x0) 4611686018427387904 (m, d)).bind fun x1 =>
 .ret x1
 else
 bif decide (m > w64 (sh64 (w64u (w64 (a + b))) 1)) then
 (T.loop (symEnL4Step a m b (w64 (sh64 (w64u (w64 (a + b))) 1)) (w64 (w64 (sh64 (w64u (w64 (a + b))) 1) + m)) (w64 (w64 (w64 (sh64 (w64u (w64 (a + b))) 1) + m) - 1)) d) 4611686018427387904 (w64 (w64 (w64 (sh64 (w64u (w64 (a + b))) 1) + m) - b), w64 (sh64 (w64u (w64 (a + b))) 1))).bind fun x0 =>
 bif decide (x0 < m) then
 bif decide (m < w64 (w64 (w64 (sh64 (w64u (w64 (a + b))) 1) + m) - x0)) then
 (rotEnTr x0 m (w64 (w64 (w64 (sh64 (w64u (w64 (a + b))) 1) + m) - x0)) d).bind fun x1 =>
 bif decide (a < x0) then
 bif decide (x0 < w64 (sh64 (w64u (w64 (a + b))) 1)) then
 (rec x1 a x0 (w64 (sh64 (w64u (w64 (a + b))) 1))).bind fun x2 =>
 bif decide (w64 (sh64 (w64u (w64 (a + b))) 1) < w64 (w64 (w64 (sh64 (w64u (w64 (a + b))) 1) + m) - x0)) then
 bif decide (w64 (w64 (w64 (sh64 (w64u (w64 (a + b))) 1) + m) - x0) < b) then
 (rec x2 (w64 (sh64 (w64u (w64 (a + b))) 1)) (w64 (w64 (w64 (sh64 (w64u (w64 (a + b))) 1) + m) - x0)) b).bind fun x3 =>
 .ret x3
 else
 .ret x2
 else
 .ret x2
 else
 bif decide (w64 (sh64 (w64u (w64 (a + b))) 1) < w64 (w64 (w64 (sh64 (w64u (w64 (a + b))) 1) + m) - x0)) then
 bif decide (w64 (w64 (w64 (sh64 (w64u (w64 (a + b))) 1) + m) - x0) < b) then
 (rec x1 (w64 (sh64 (w64u (w64 (a + b))) 1)) (w64 (w64 (w64 (sh64 (w64u (w64 (a + b))) 1) + m) - x0)) b).bind fun x2 =>
 .ret x2
 else
 .ret x1
 else
 .ret x1
 else
 bif decide (w64 (sh64 (w64u (w64 (a + b))) 1) < w64 (w64 (w64 (sh64 (w64u (w64 (a + b))) 1) + m) - x0)) then
 bif decide (w64 (w64 (w64 (sh64 (w64u (w64 (a + b))) 1) + m) - x0) < b) then
 (rec x1 (w64 (sh64 (w64u (w64 (a + b))) 1)) (w64 (w64 (w64 (sh64 (w64u (w64 (a + b))) 1) + m) - x0)) b).bind fun x2 =>
 .ret x2
 else
 .ret x1
 else
 .ret x1
 else
 bif decide (a < x0) then
 bif decide (x0 < w64 (sh64 (w64u (w64 (a + b))) 1)) then
 (rec d a x0 (w64 (sh64 (w64u (w64 (a + b))) 1))).bind fun x1 =>
 bif decide (w64 (sh64 (w64u (w64 (a + b))) 1) < w64 (w64 (w64 (sh64 (w64u (w64 (a + b))) 1) + m) - x0)) then
 bif decide (w64 (w64 (w64 (sh64 (w64u (w64 (a + b))) 1) + m) - x0) < b) then
 (rec x1 (w64 (sh64 (w64u (w64 (a + b))) 1)) (w64 (w64 (w64 (sh64 (w64u (w64 (a + b))) 1) + m) - x0)) b).bind fun x2 =>
 .ret x2
 else
 .ret x1
 else
 .ret x1
 else
 bif decide (w64 (sh64 (w64u (w64 (a + b))) 1) < w64 (w64 (w64 (sh64 (w64u (w64 (a + b))) 1) + m) - x0)) then
 bif decide (w64 (w64 (w64 (sh64 (w64u (w64 (a + b))) 1) + m) - x0) < b) then
 (rec d (w64 (sh64 (w64u (w64 (a + b))) 1)) (w64 (w64 (w64 (sh64 (w64u (w64 (a + b))) 1) + m) - x0)) b).bind fun x1 =>
 .ret x1
 else
 .ret d
 else
 .ret d
 else
 bif decide (w64 (sh64 (w64u (w64 (a + b))) 1) < w64 (w64 (w64 (sh64 (w64u (w64 (a + b))) 1) + m) - x0)) then
 bif decide (w64 (w64 (w64 (sh64 (w64u (w64 (a + b))) 1) + m) - x0) < b) then
 (rec d (w64 (sh64 (w64u (w64 (a + b))) 1)) (w64 (w64 (w64 (sh64 (w64u (w64 (a + b))) 1) + m) - x0)) b).bind fun x1 =>
 .ret x1
 else
 .ret d
 else
 .ret d
 else
 bif decide (a < x0) then
 bif decide (x0 < w64 (sh64 (w64u (w64 (a + b))) 1)) then
 (rec d a x0 (w64 (sh64 (w64u (w64 (a + b))) 1))).bind fun x1 =>
 bif decide (w64 (sh64 (w64u (w64 (a + b))) 1) < w64 (w64 (w64 (sh64 (w64u (w64 (a + b))) 1) + m) - x0)) then
 bif decide (w64 (w64 (w64 (sh64 (w64u (w64 (a + b))) 1) + m) - x0) < b) then
 (rec x1 (w64 (sh64 (w64u (w64 (a + b))) 1)) (w64 (w64 (w64 (sh64 (w64u (w64 (a + b))) 1) + m) - x0)) b).bind fun x2 =>
 .ret x2
 else
 .ret x1
 else
 .ret x1
 else
 bif decide (w64 (sh64 (w64u (w64 (a + b))) 1) < w64 (w64 (w64 (sh64 (w64u (w64 (a + b))) 1) + m) - x0)) then
 bif decide (w64 (w64 (w64 (sh64 (w64u (w64 (a + b))) 1) + m) - x0) < b) then
 (rec d (w64 (sh64 (w64u (w64 (a + b))) 1)) (w64 (w64 (w64 (sh64 (w64u (w64 (a + b))) 1) + m) - x0)) b).bind fun x1 =>
 .ret x1
 else
 .ret d
 else
 .ret d
 else
 bif decide (w64 (sh64 (w64u (w64 (a + b))) 1) < w64 (w64 (w64 (sh64 (w64u (w64 (a + b))) 1) + m) - x0)) then
 bif decide (w64 (w64 (w64 (sh64 (w64u (w64 (a + b))) 1) + m) - x0) < b) then
 (rec d (w64 (sh64 (w64u (w64 (a + b))) 1)) (w64 (w64 (w64 (sh64 (w64u (w64 (a + b))) 1) + m) - x0)) b).bind fun x1 =>
 .ret x1
 else
 .ret d
 else
 .ret d
 else
 (T.loop (symEnL4Step a m b (w64 (sh64 (w64u (w64 (a + b))) 1)) (w64 (w64 (sh64 (w64u (w64 (a + b))) 1) + m)) (w64 (w64 (w64 (sh64 (w64u (w64 (a + b))) 1) + m) - 1)) d) 4611686018427387904 (a, m)).bind fun x0 =>
 bif decide (x0 < m) then
 bif decide (m < w64 (w64 (w64 (sh64 (w64u (w64 (a + b))) 1) + m) - x0)) then
 (rotEnTr x0 m (w64 (w64 (w64 (sh64 (w64u (w64 (a + b))) 1) + m) - x0)) d).bind fun x1 =>
 bif decide (a < x0) then
 bif decide (x0 < w64 (sh64 (w64u (w64 (a + b))) 1)) then
 (rec x1 a x0 (w64 (sh64 (w64u (w64 (a + b))) 1))).bind fun x2 =>
 bif decide (w64 (sh64 (w64u (w64 (a + b))) 1) < w64 (w64 (w64 (sh64 (w64u (w64 (a + b))) 1) + m) - x0)) then
 bif decide (w64 (w64 (w64 (sh64 (w64u (w64 (a + b))) 1) + m) - x0) < b) then
 (rec x2 (w64 (sh64 (w64u (w64 (a + b))) 1)) (w64 (w64 (w64 (sh64 (w64u (w64 (a + b))) 1) + m) - x0)) b).bind fun x3 =>
 .ret x3
 else
 .ret x2
 else
 .ret x2
 else
 bif decide (w64 (sh64 (w64u (w64 (a + b))) 1) < w64 (w64 (w64 (sh64 (w64u (w64 (a + b))) 1) + m) - x0)) then
 bif decide (w64 (w64 (w64 (sh64 (w64u (w64 (a + b))) 1) + m) - x0) < b) then
 (rec x1 (w64 (sh64 (w64u (w64 (a + b))) 1)) (w64 (w64 (w64 (sh64 (w64u (w64 (a + b))) 1) + m) - x0)) b).bind fun x2 =>
 .ret x2
 else
 .ret x1
 else
 .ret x1
 else
 bif decide (w64 (sh64 (w64u (w64 (a + b))) 1) < w64 (w64 (w64 (sh64 (w64u (w64 (a + b))) 1) + m) - x0)) then
 bif decide (w64 (w64 (w64 (sh64 (w64u (w64 (a + b))) 1) + m) - x0) < b) then
 (rec x1 (w64 (sh64 (w64u (w64 (a + b))) 1)) (w64 (w64 (w64 (sh64 (w64u (w64 (a + b))) 1) + m) - x0)) b).bind fun x2 =>
 .ret x2
 else
 .ret x1
 else
 .ret x1
 else
 bif decide (a < x0) then
 bif decide (x0 < w64 (sh64 (w64u (w64 (a + b))) 1)) then
 (rec d a x0 (w64 (sh64 (w64u (w64 (a + b))) 1))).bind fun x1 =>
 bif decide (w64 (sh64 (w64u (w64 (a + b))) 1) < w64 (w64 (w64 (sh64 (w64u (w64 (a + b))) 1) + m) - x0)) then
 bif decide (w64 (w64 (w64 (sh64 (w64u (w64 (a + b))) 1) + m) - x0) < b) then
 (rec x1 (w64 (sh64 (w64u (w64 (a + b))) 1)) (w64 (w64 (w64 (sh64 (w64u (w64 (a + b))) 1) + m) - x0)) b).bind fun x2 =>
 .ret x2
 else
 .ret x1
 else
 .ret x1
 else
 bif decide (w64 (sh64 (w64u (w64 (a + b))) 1) < w64 (w64 (w64 (sh64 (w64u (w64 (a + b))) 1) + m) - x0)) then
 bif decide (w64 (w64 (w64 (sh64 (w64u (w64 (a + b))) 1) + m) - x0) < b) then
 (rec d (w64 (sh64 (w64u (w64 (a + b))) 1)) (w64 (w64 (w64 (sh64 (w64u (w64 (a + b))) 1) + m) - x0)) b).bind fun x1 =>
 .ret x1
 else
 .ret d
 else
 .ret d
 else
 bif decide (w64 (sh64 (w64u (w64 (a + b))) 1) < w64 (w64 (w64 (sh64 (w64u (w64 (a + b))) 1) + m) - x0)) then
 bif decide (w64 (w64 (w64 (sh64 (w64u (w64 (a + b))) 1) + m) - x0) < b) then
 (rec d (w64 (sh64 (w64u (w64 (a + b))) 1)) (w64 (w64 (w64 (sh64 (w64u (w64 (a + b))) 1) + m) - x0)) b).bind fun x1 =>
 .ret x1
 else
 .ret d
 else
 .ret d
 else
 bif decide (a < x0) then
 bif decide (x0 < w64 (sh64 (w64u (w64 (a + b))) 1)) then
 (rec d a x0 (w64 (sh64 (w64u (w64 (a + b))) 1))).bind fun x1 =>
 bif decide (w64 (sh64 (w64u (w64 (a + b))) 1) < w64 (w64 (w64 (sh64 (w64u (w64 (a + b))) 1) + m) - x0)) then
 bif decide (w64 (w64 (w64 (sh64 (w64u (w64 (a + b))) 1) + m) - x0) < b) then
 (rec x1 (w64 (sh64 (w64u (w64 (a + b))) 1)) (w64 (w64 (w64 (sh64 (w64u (w64 (a + b))) 1) + m) - x0)) b).bind fun x2 =>
 .ret x2
 else
 .ret x1
 else
 .ret x1
 else
 bif decide (w64 (sh64 (w64u (w64 (a + b))) 1) < w64 (w64 (w64 (sh64 (w64u (w64 (a + b))) 1) + m) - x0)) then
 bif decide (w64 (w64 (w64 (sh64 (w64u (w64 (a + b))) 1) + m) - x0) < b) then
 (rec d (w64 (sh64 (w64u (w64 (a + b))) 1)) (w64 (w64 (w64 (sh64 (w64u (w64 (a + b))) 1) + m) - x0)) b).bind fun x1 =>
 .ret x1
 else
 .ret d
 else
 .ret d
 else
 bif decide (w64 (sh64 (w64u (w64 (a + b))) 1) < w64 (w64 (w64 (sh64 (w64u (w64 (a + b))) 1) + m) - x0)) then
 bif decide (w64 (w64 (w64 (sh64 (w64u (w64 (a + b))) 1) + m) - x0) < b) then
 (rec d (w64 (sh64 (w64u (w64 (a + b))) 1)) (w64 (w64 (w64 (sh64 (w64u (w64 (a + b))) 1) + m) - x0)) b).bind fun x1 =>
 .ret x1
 else
 .ret d
 else
 .ret d
@[reducible] def symEnCI (rec : List En → Int → Int → Int → T (List En)) : PIf (VhL [.s (.ownC 0), vi, vi, vi, .clo 98 []] × OShL cdw2q0) (VhL [.s (.ownC 0)] × OShL cdw2q0) where
  α := List En
  tr x := (symEnTr rec) x.1.2.1 x.1.2.2.1 x.1.2.2.2.1 x.2.1
  enc x a := ((x.1.1, ()), (a, ()))
@[reducible] def symEnI (rec : List En → Int → Int → Int → T (List En)) : PIf (VhL [.s (.own 0), vi, vi, vi, .clo 98 []] × OShL cdw2q0) (VhL [] × OShL cdw2q0) where
  α := List En
  tr x := (symEnTr rec) x.1.2.1 x.1.2.2.1 x.1.2.2.2.1 x.2.1
  enc x a := ((), (a, ()))
abbrev symEn_T : Type := VhL [.s (.own 0), vi, vi, vi, .clo 98 []] × OShL cdw2q0 → Option (VhL [] × OShL cdw2q0)
noncomputable abbrev symEn_C (sp : symEn_T) : Con := Con.fx [vi, vi, vi, .clo 98 []] cdw2q0 [] cdw2q0 sp
theorem symEn_raw (sp_cmpEn : cmpEn_T) (sp_rotEn : rotEn_T) (sp_symREn : VhL [.s (.own 0), vi, vi, vi, .clo 98 []] × OShL cdw2q0 → Option (VhL [] × OShL cdw2q0)) (sp_symEnL0 : VhL symEnL0vs × OShL symEnL0os → Option symEnL0fin.Y) (sp_symEnL1 : VhL symEnL1vs × OShL symEnL1os → Option symEnL1fin.Y) (sp_symEnL2 : VhL symEnL2vs × OShL symEnL2os → Option symEnL2fin.Y) (sp_symEnL3 : VhL symEnL3vs × OShL symEnL3os → Option symEnL3fin.Y) (sp_symEnL4 : VhL symEnL4vs × OShL symEnL4os → Option symEnL4fin.Y) (c0 : Value) (a : Int) (m : Int) (b : Int) (d : List En) : runX Tryz.f124 [vi, vi, vi, .clo 98 []] cdw2q0 [] cdw2q0 [(98, cmpEn_C sp_cmpEn), (130, rotEn_C sp_rotEn), (124, Con.fx [vi, vi, vi, .clo 98 []] cdw2q0 [] cdw2q0 sp_symREn)] [(3, LCon.of Tryz.f124.ntmps [0, 1, 4, 10, 11] symEnL0vs symEnL0os symEnL0fin sp_symEnL0), (9, LCon.of Tryz.f124.ntmps [0, 10, 13] symEnL1vs symEnL1os symEnL1fin sp_symEnL1), (15, LCon.of Tryz.f124.ntmps [0, 2, 4, 14, 15] symEnL2vs symEnL2os symEnL2fin sp_symEnL2), (21, LCon.of Tryz.f124.ntmps [0, 14, 17] symEnL3vs symEnL3os symEnL3fin sp_symEnL3), (33, LCon.of Tryz.f124.ntmps [0, 1, 2, 3, 4, 18, 19, 20, 21, 22] symEnL4vs symEnL4os symEnL4fin sp_symEnL4)] [] (((c0, a, m, b, (), ()), (d, ())) : VhL [.s (.ownC 0), vi, vi, vi, .clo 98 []] × OShL cdw2q0) = (bif w64 (m - a) == 1 then (sp_symEnL0 ((c0, a, (), m, b, ()), d, ())).bind fun val => (sp_symEnL1 ((val.1.1, val.1.2.2.1, val.1.2.1, ()), val.2.1, ())).bind fun val => some ((val.1.1, ()), val.2.1, ())
else
  bif w64 (b - m) == 1 then (sp_symEnL2 ((c0, m, (), a, m, ()), d, ())).bind fun val => (sp_symEnL3 ((val.1.1, val.1.2.2.1, val.1.2.1, ()), val.2.1, ())).bind fun val => some ((val.1.1, ()), val.2.1, ())
  else
    bif decide (m > w64 (sh64 (w64u (w64 (a + b))) 1)) then
      (sp_symEnL4
            ((c0, a, m, b, (), w64 (sh64 (w64u (w64 (a + b))) 1), w64 (w64 (sh64 (w64u (w64 (a + b))) 1) + m), w64 (w64 (w64 (sh64 (w64u (w64 (a + b))) 1) + m) - b), w64 (sh64 (w64u (w64 (a + b))) 1),
                w64 (w64 (w64 (sh64 (w64u (w64 (a + b))) 1) + m) - 1), ()),
              d, ())).bind
        fun val =>
        bif decide (val.1.2.2.2.2.2.2.2.1 < val.1.2.2.1) then
          bif decide (val.1.2.2.1 < w64 (val.1.2.2.2.2.2.2.1 - val.1.2.2.2.2.2.2.2.1)) then
            (sp_rotEn (((), val.1.2.2.2.2.2.2.2.1, val.1.2.2.1, w64 (val.1.2.2.2.2.2.2.1 - val.1.2.2.2.2.2.2.2.1), (), ()), val.2.1, ())).bind fun val_1 =>
              bif decide (val.1.2.1 < val.1.2.2.2.2.2.2.2.1) then
                bif decide (val.1.2.2.2.2.2.2.2.1 < val.1.2.2.2.2.2.1) then
                  (sp_symREn (((), val.1.2.1, val.1.2.2.2.2.2.2.2.1, val.1.2.2.2.2.2.1, (), ()), val_1.2.1, ())).bind fun val_2 =>
                    bif decide (val.1.2.2.2.2.2.1 < w64 (val.1.2.2.2.2.2.2.1 - val.1.2.2.2.2.2.2.2.1)) then
                      bif decide (w64 (val.1.2.2.2.2.2.2.1 - val.1.2.2.2.2.2.2.2.1) < val.1.2.2.2.1) then
                        (sp_symREn (((), val.1.2.2.2.2.2.1, w64 (val.1.2.2.2.2.2.2.1 - val.1.2.2.2.2.2.2.2.1), val.1.2.2.2.1, (), ()), val_2.2.1, ())).bind fun val_3 =>
                          some ((val.1.1, ()), val_3.2.1, ())
                      else some ((val.1.1, ()), val_2.2.1, ())
                    else some ((val.1.1, ()), val_2.2.1, ())
                else
                  bif decide (val.1.2.2.2.2.2.1 < w64 (val.1.2.2.2.2.2.2.1 - val.1.2.2.2.2.2.2.2.1)) then
                    bif decide (w64 (val.1.2.2.2.2.2.2.1 - val.1.2.2.2.2.2.2.2.1) < val.1.2.2.2.1) then
                      (sp_symREn (((), val.1.2.2.2.2.2.1, w64 (val.1.2.2.2.2.2.2.1 - val.1.2.2.2.2.2.2.2.1), val.1.2.2.2.1, (), ()), val_1.2.1, ())).bind fun val_2 =>
                        some ((val.1.1, ()), val_2.2.1, ())
                    else some ((val.1.1, ()), val_1.2.1, ())
                  else some ((val.1.1, ()), val_1.2.1, ())
              else
                bif decide (val.1.2.2.2.2.2.1 < w64 (val.1.2.2.2.2.2.2.1 - val.1.2.2.2.2.2.2.2.1)) then
                  bif decide (w64 (val.1.2.2.2.2.2.2.1 - val.1.2.2.2.2.2.2.2.1) < val.1.2.2.2.1) then
                    (sp_symREn (((), val.1.2.2.2.2.2.1, w64 (val.1.2.2.2.2.2.2.1 - val.1.2.2.2.2.2.2.2.1), val.1.2.2.2.1, (), ()), val_1.2.1, ())).bind fun val_2 =>
                      some ((val.1.1, ()), val_2.2.1, ())
                  else some ((val.1.1, ()), val_1.2.1, ())
                else some ((val.1.1, ()), val_1.2.1, ())
          else
            bif decide (val.1.2.1 < val.1.2.2.2.2.2.2.2.1) then
              bif decide (val.1.2.2.2.2.2.2.2.1 < val.1.2.2.2.2.2.1) then
                (sp_symREn (((), val.1.2.1, val.1.2.2.2.2.2.2.2.1, val.1.2.2.2.2.2.1, (), ()), val.2.1, ())).bind fun val_1 =>
                  bif decide (val.1.2.2.2.2.2.1 < w64 (val.1.2.2.2.2.2.2.1 - val.1.2.2.2.2.2.2.2.1)) then
                    bif decide (w64 (val.1.2.2.2.2.2.2.1 - val.1.2.2.2.2.2.2.2.1) < val.1.2.2.2.1) then
                      (sp_symREn (((), val.1.2.2.2.2.2.1, w64 (val.1.2.2.2.2.2.2.1 - val.1.2.2.2.2.2.2.2.1), val.1.2.2.2.1, (), ()), val_1.2.1, ())).bind fun val_2 =>
                        some ((val.1.1, ()), val_2.2.1, ())
                    else some ((val.1.1, ()), val_1.2.1, ())
                  else some ((val.1.1, ()), val_1.2.1, ())
              else
                bif decide (val.1.2.2.2.2.2.1 < w64 (val.1.2.2.2.2.2.2.1 - val.1.2.2.2.2.2.2.2.1)) then
                  bif decide (w64 (val.1.2.2.2.2.2.2.1 - val.1.2.2.2.2.2.2.2.1) < val.1.2.2.2.1) then
                    (sp_symREn (((), val.1.2.2.2.2.2.1, w64 (val.1.2.2.2.2.2.2.1 - val.1.2.2.2.2.2.2.2.1), val.1.2.2.2.1, (), ()), val.2.1, ())).bind fun val_1 =>
                      some ((val.1.1, ()), val_1.2.1, ())
                  else some ((val.1.1, ()), val.2.1, ())
                else some ((val.1.1, ()), val.2.1, ())
            else
              bif decide (val.1.2.2.2.2.2.1 < w64 (val.1.2.2.2.2.2.2.1 - val.1.2.2.2.2.2.2.2.1)) then
                bif decide (w64 (val.1.2.2.2.2.2.2.1 - val.1.2.2.2.2.2.2.2.1) < val.1.2.2.2.1) then
                  (sp_symREn (((), val.1.2.2.2.2.2.1, w64 (val.1.2.2.2.2.2.2.1 - val.1.2.2.2.2.2.2.2.1), val.1.2.2.2.1, (), ()), val.2.1, ())).bind fun val_1 =>
                    some ((val.1.1, ()), val_1.2.1, ())
                else some ((val.1.1, ()), val.2.1, ())
              else some ((val.1.1, ()), val.2.1, ())
        else
          bif decide (val.1.2.1 < val.1.2.2.2.2.2.2.2.1) then
            bif decide (val.1.2.2.2.2.2.2.2.1 < val.1.2.2.2.2.2.1) then
              (sp_symREn (((), val.1.2.1, val.1.2.2.2.2.2.2.2.1, val.1.2.2.2.2.2.1, (), ()), val.2.1, ())).bind fun val_1 =>
                bif decide (val.1.2.2.2.2.2.1 < w64 (val.1.2.2.2.2.2.2.1 - val.1.2.2.2.2.2.2.2.1)) then
                  bif decide (w64 (val.1.2.2.2.2.2.2.1 - val.1.2.2.2.2.2.2.2.1) < val.1.2.2.2.1) then
                    (sp_symREn (((), val.1.2.2.2.2.2.1, w64 (val.1.2.2.2.2.2.2.1 - val.1.2.2.2.2.2.2.2.1), val.1.2.2.2.1, (), ()), val_1.2.1, ())).bind fun val_2 =>
                      some ((val.1.1, ()), val_2.2.1, ())
                  else some ((val.1.1, ()), val_1.2.1, ())
                else some ((val.1.1, ()), val_1.2.1, ())
            else
              bif decide (val.1.2.2.2.2.2.1 < w64 (val.1.2.2.2.2.2.2.1 - val.1.2.2.2.2.2.2.2.1)) then
                bif decide (w64 (val.1.2.2.2.2.2.2.1 - val.1.2.2.2.2.2.2.2.1) < val.1.2.2.2.1) then
                  (sp_symREn (((), val.1.2.2.2.2.2.1, w64 (val.1.2.2.2.2.2.2.1 - val.1.2.2.2.2.2.2.2.1), val.1.2.2.2.1, (), ()), val.2.1, ())).bind fun val_1 =>
                    some ((val.1.1, ()), val_1.2.1, ())
                else some ((val.1.1, ()), val.2.1, ())
              else some ((val.1.1, ()), val.2.1, ())
          else
            bif decide (val.1.2.2.2.2.2.1 < w64 (val.1.2.2.2.2.2.2.1 - val.1.2.2.2.2.2.2.2.1)) then
              bif decide (w64 (val.1.2.2.2.2.2.2.1 - val.1.2.2.2.2.2.2.2.1) < val.1.2.2.2.1) then
                (sp_symREn (((), val.1.2.2.2.2.2.1, w64 (val.1.2.2.2.2.2.2.1 - val.1.2.2.2.2.2.2.2.1), val.1.2.2.2.1, (), ()), val.2.1, ())).bind fun val_1 =>
                  some ((val.1.1, ()), val_1.2.1, ())
              else some ((val.1.1, ()), val.2.1, ())
            else some ((val.1.1, ()), val.2.1, ())
    else
      (sp_symEnL4 ((c0, a, m, b, (), w64 (sh64 (w64u (w64 (a + b))) 1), w64 (w64 (sh64 (w64u (w64 (a + b))) 1) + m), a, m, w64 (w64 (w64 (sh64 (w64u (w64 (a + b))) 1) + m) - 1), ()), d, ())).bind fun val =>
        bif decide (val.1.2.2.2.2.2.2.2.1 < val.1.2.2.1) then
          bif decide (val.1.2.2.1 < w64 (val.1.2.2.2.2.2.2.1 - val.1.2.2.2.2.2.2.2.1)) then
            (sp_rotEn (((), val.1.2.2.2.2.2.2.2.1, val.1.2.2.1, w64 (val.1.2.2.2.2.2.2.1 - val.1.2.2.2.2.2.2.2.1), (), ()), val.2.1, ())).bind fun val_1 =>
              bif decide (val.1.2.1 < val.1.2.2.2.2.2.2.2.1) then
                bif decide (val.1.2.2.2.2.2.2.2.1 < val.1.2.2.2.2.2.1) then
                  (sp_symREn (((), val.1.2.1, val.1.2.2.2.2.2.2.2.1, val.1.2.2.2.2.2.1, (), ()), val_1.2.1, ())).bind fun val_2 =>
                    bif decide (val.1.2.2.2.2.2.1 < w64 (val.1.2.2.2.2.2.2.1 - val.1.2.2.2.2.2.2.2.1)) then
                      bif decide (w64 (val.1.2.2.2.2.2.2.1 - val.1.2.2.2.2.2.2.2.1) < val.1.2.2.2.1) then
                        (sp_symREn (((), val.1.2.2.2.2.2.1, w64 (val.1.2.2.2.2.2.2.1 - val.1.2.2.2.2.2.2.2.1), val.1.2.2.2.1, (), ()), val_2.2.1, ())).bind fun val_3 =>
                          some ((val.1.1, ()), val_3.2.1, ())
                      else some ((val.1.1, ()), val_2.2.1, ())
                    else some ((val.1.1, ()), val_2.2.1, ())
                else
                  bif decide (val.1.2.2.2.2.2.1 < w64 (val.1.2.2.2.2.2.2.1 - val.1.2.2.2.2.2.2.2.1)) then
                    bif decide (w64 (val.1.2.2.2.2.2.2.1 - val.1.2.2.2.2.2.2.2.1) < val.1.2.2.2.1) then
                      (sp_symREn (((), val.1.2.2.2.2.2.1, w64 (val.1.2.2.2.2.2.2.1 - val.1.2.2.2.2.2.2.2.1), val.1.2.2.2.1, (), ()), val_1.2.1, ())).bind fun val_2 =>
                        some ((val.1.1, ()), val_2.2.1, ())
                    else some ((val.1.1, ()), val_1.2.1, ())
                  else some ((val.1.1, ()), val_1.2.1, ())
              else
                bif decide (val.1.2.2.2.2.2.1 < w64 (val.1.2.2.2.2.2.2.1 - val.1.2.2.2.2.2.2.2.1)) then
                  bif decide (w64 (val.1.2.2.2.2.2.2.1 - val.1.2.2.2.2.2.2.2.1) < val.1.2.2.2.1) then
                    (sp_symREn (((), val.1.2.2.2.2.2.1, w64 (val.1.2.2.2.2.2.2.1 - val.1.2.2.2.2.2.2.2.1), val.1.2.2.2.1, (), ()), val_1.2.1, ())).bind fun val_2 =>
                      some ((val.1.1, ()), val_2.2.1, ())
                  else some ((val.1.1, ()), val_1.2.1, ())
                else some ((val.1.1, ()), val_1.2.1, ())
          else
            bif decide (val.1.2.1 < val.1.2.2.2.2.2.2.2.1) then
              bif decide (val.1.2.2.2.2.2.2.2.1 < val.1.2.2.2.2.2.1) then
                (sp_symREn (((), val.1.2.1, val.1.2.2.2.2.2.2.2.1, val.1.2.2.2.2.2.1, (), ()), val.2.1, ())).bind fun val_1 =>
                  bif decide (val.1.2.2.2.2.2.1 < w64 (val.1.2.2.2.2.2.2.1 - val.1.2.2.2.2.2.2.2.1)) then
                    bif decide (w64 (val.1.2.2.2.2.2.2.1 - val.1.2.2.2.2.2.2.2.1) < val.1.2.2.2.1) then
                      (sp_symREn (((), val.1.2.2.2.2.2.1, w64 (val.1.2.2.2.2.2.2.1 - val.1.2.2.2.2.2.2.2.1), val.1.2.2.2.1, (), ()), val_1.2.1, ())).bind fun val_2 =>
                        some ((val.1.1, ()), val_2.2.1, ())
                    else some ((val.1.1, ()), val_1.2.1, ())
                  else some ((val.1.1, ()), val_1.2.1, ())
              else
                bif decide (val.1.2.2.2.2.2.1 < w64 (val.1.2.2.2.2.2.2.1 - val.1.2.2.2.2.2.2.2.1)) then
                  bif decide (w64 (val.1.2.2.2.2.2.2.1 - val.1.2.2.2.2.2.2.2.1) < val.1.2.2.2.1) then
                    (sp_symREn (((), val.1.2.2.2.2.2.1, w64 (val.1.2.2.2.2.2.2.1 - val.1.2.2.2.2.2.2.2.1), val.1.2.2.2.1, (), ()), val.2.1, ())).bind fun val_1 =>
                      some ((val.1.1, ()), val_1.2.1, ())
                  else some ((val.1.1, ()), val.2.1, ())
                else some ((val.1.1, ()), val.2.1, ())
            else
              bif decide (val.1.2.2.2.2.2.1 < w64 (val.1.2.2.2.2.2.2.1 - val.1.2.2.2.2.2.2.2.1)) then
                bif decide (w64 (val.1.2.2.2.2.2.2.1 - val.1.2.2.2.2.2.2.2.1) < val.1.2.2.2.1) then
                  (sp_symREn (((), val.1.2.2.2.2.2.1, w64 (val.1.2.2.2.2.2.2.1 - val.1.2.2.2.2.2.2.2.1), val.1.2.2.2.1, (), ()), val.2.1, ())).bind fun val_1 =>
                    some ((val.1.1, ()), val_1.2.1, ())
                else some ((val.1.1, ()), val.2.1, ())
              else some ((val.1.1, ()), val.2.1, ())
        else
          bif decide (val.1.2.1 < val.1.2.2.2.2.2.2.2.1) then
            bif decide (val.1.2.2.2.2.2.2.2.1 < val.1.2.2.2.2.2.1) then
              (sp_symREn (((), val.1.2.1, val.1.2.2.2.2.2.2.2.1, val.1.2.2.2.2.2.1, (), ()), val.2.1, ())).bind fun val_1 =>
                bif decide (val.1.2.2.2.2.2.1 < w64 (val.1.2.2.2.2.2.2.1 - val.1.2.2.2.2.2.2.2.1)) then
                  bif decide (w64 (val.1.2.2.2.2.2.2.1 - val.1.2.2.2.2.2.2.2.1) < val.1.2.2.2.1) then
                    (sp_symREn (((), val.1.2.2.2.2.2.1, w64 (val.1.2.2.2.2.2.2.1 - val.1.2.2.2.2.2.2.2.1), val.1.2.2.2.1, (), ()), val_1.2.1, ())).bind fun val_2 =>
                      some ((val.1.1, ()), val_2.2.1, ())
                  else some ((val.1.1, ()), val_1.2.1, ())
                else some ((val.1.1, ()), val_1.2.1, ())
            else
              bif decide (val.1.2.2.2.2.2.1 < w64 (val.1.2.2.2.2.2.2.1 - val.1.2.2.2.2.2.2.2.1)) then
                bif decide (w64 (val.1.2.2.2.2.2.2.1 - val.1.2.2.2.2.2.2.2.1) < val.1.2.2.2.1) then
                  (sp_symREn (((), val.1.2.2.2.2.2.1, w64 (val.1.2.2.2.2.2.2.1 - val.1.2.2.2.2.2.2.2.1), val.1.2.2.2.1, (), ()), val.2.1, ())).bind fun val_1 =>
                    some ((val.1.1, ()), val_1.2.1, ())
                else some ((val.1.1, ()), val.2.1, ())
              else some ((val.1.1, ()), val.2.1, ())
          else
            bif decide (val.1.2.2.2.2.2.1 < w64 (val.1.2.2.2.2.2.2.1 - val.1.2.2.2.2.2.2.2.1)) then
              bif decide (w64 (val.1.2.2.2.2.2.2.1 - val.1.2.2.2.2.2.2.2.1) < val.1.2.2.2.1) then
                (sp_symREn (((), val.1.2.2.2.2.2.1, w64 (val.1.2.2.2.2.2.2.1 - val.1.2.2.2.2.2.2.2.1), val.1.2.2.2.1, (), ()), val.2.1, ())).bind fun val_1 =>
                  some ((val.1.1, ()), val_1.2.1, ())
              else some ((val.1.1, ()), val.2.1, ())
            else some ((val.1.1, ()), val.2.1, ())) := by kernel_rfl
theorem symEn_ok {rec : List En → Int → Int → Int → T (List En)} (symREn_ok : Sound Tryz.prog gl 124 (Con.fx [vi, vi, vi, .clo 98 []] cdw2q0 [] cdw2q0 (PIf.spec (symREnI rec)))) : Sound Tryz.prog gl 124 (symEn_C (PIf.spec (symEnI rec))) := by
  refine cxk (I := (symEnCI rec)) (J := (symEnI rec)) (fn := Tryz.f124) (G := [(98, cmpEn_C (PIf.spec cmpEnI)), (130, rotEn_C (PIf.spec rotEnI)), (124, Con.fx [vi, vi, vi, .clo 98 []] cdw2q0 [] cdw2q0 (PIf.spec (symREnI rec)))]) (GOk.cons cmpEn_g cmpEn_ok (GOk.cons rotEn_g rotEn_ok (GOk.cons ⟨Tryz.f124, body Tryz.f124, by kernel_rfl, by kernel_rfl, by kernel_rfl⟩ symREn_ok (GOk.nil)))) (by kernel_rfl) (by kernel_rfl) (Lc := [(3, LCon.of Tryz.f124.ntmps [0, 1, 4, 10, 11] symEnL0vs symEnL0os symEnL0fin (PIf.spec symEnL0I)), (9, LCon.of Tryz.f124.ntmps [0, 10, 13] symEnL1vs symEnL1os symEnL1fin (PIf.spec symEnL1I)), (15, LCon.of Tryz.f124.ntmps [0, 2, 4, 14, 15] symEnL2vs symEnL2os symEnL2fin (PIf.spec symEnL2I)), (21, LCon.of Tryz.f124.ntmps [0, 14, 17] symEnL3vs symEnL3os symEnL3fin (PIf.spec symEnL3I)), (33, LCon.of Tryz.f124.ntmps [0, 1, 2, 3, 4, 18, 19, 20, 21, 22] symEnL4vs symEnL4os symEnL4fin (PIf.spec symEnL4I))]) (nh := []) (lcok (bs := [getL (body Tryz.f124) 0, getL (body Tryz.f124) 1, getL (body Tryz.f124) 2, getL (body Tryz.f124) 3, getL (body Tryz.f124) 4]) (by kernel_rfl) ⟨lone_ok (q := (3, LCon.of Tryz.f124.ntmps [0, 1, 4, 10, 11] symEnL0vs symEnL0os symEnL0fin (PIf.spec symEnL0I))) (by kernel_rfl) (symEnL0_ok symREn_ok), lone_ok (q := (9, LCon.of Tryz.f124.ntmps [0, 10, 13] symEnL1vs symEnL1os symEnL1fin (PIf.spec symEnL1I))) (by kernel_rfl) (symEnL1_ok symREn_ok), lone_ok (q := (15, LCon.of Tryz.f124.ntmps [0, 2, 4, 14, 15] symEnL2vs symEnL2os symEnL2fin (PIf.spec symEnL2I))) (by kernel_rfl) (symEnL2_ok symREn_ok), lone_ok (q := (21, LCon.of Tryz.f124.ntmps [0, 14, 17] symEnL3vs symEnL3os symEnL3fin (PIf.spec symEnL3I))) (by kernel_rfl) (symEnL3_ok symREn_ok), lone_ok (q := (33, LCon.of Tryz.f124.ntmps [0, 1, 2, 3, 4, 18, 19, 20, 21, 22] symEnL4vs symEnL4os symEnL4fin (PIf.spec symEnL4I))) (by kernel_rfl) (symEnL4_ok symREn_ok), trivial⟩) ?_ (fun c0 x o y h => by obtain ⟨a, h1, rfl⟩ := Option.map_eq_some_iff.1 h; exact Option.map_eq_some_iff.2 ⟨a, h1, rfl⟩)
  rintro ⟨⟨c0, a, m, b, _, _⟩, ⟨d, _⟩⟩
  refine (symEn_raw (PIf.spec cmpEnI) (PIf.spec rotEnI) (PIf.spec (symREnI rec)) (PIf.spec symEnL0I) (PIf.spec symEnL1I) (PIf.spec symEnL2I) (PIf.spec symEnL3I) (PIf.spec symEnL4I) c0 a m b d).trans ?_
  show _ = (((symEnTr rec) a m b d).val).map ((symEnCI rec).enc ((c0, a, m, b, (), ()), (d, ())))
  unfold symEnTr
  repeat' (first | refine cond_outP (fun _ => ?_) (fun _ => ?_) | (refine bindP (fun _ => ?_); try dsimp only [selim, cond_true, cond_false, Bool.not_true, Bool.not_false, one, mI, cmpEnI, rotEnI, symREnI, symEnL0I, symEnL1I, symEnL2I, symEnL3I, symEnL4I]) | rfl)
def symKEn : Nat → List En → Int → Int → Int → T (List En)
  | 0 => fun _ _ _ _ => .bot
  | k + 1 => fun d a m b => symEnTr (symKEn k) a m b d
theorem symKEn_ok : ∀ k, Sound Tryz.prog gl 124 (Con.fx [vi, vi, vi, .clo 98 []] cdw2q0 [] cdw2q0 (PIf.spec (symREnI (symKEn k))))
  | 0 => fun _ _ _ _ _ hy => by cases hy
  | k + 1 => symEn_ok (symKEn_ok k)
def sortMEn : List En → Int → Int → Int → T (List En) := symKEn FU
@[reducible] def symMEnI : PIf (VhL [.s (.own 0), vi, vi, vi, .clo 98 []] × OShL cdw2q0) (VhL [] × OShL cdw2q0) where
  α := List En
  tr x := sortMEn x.2.1 x.1.2.1 x.1.2.2.1 x.1.2.2.2.1
  enc x a := ((), (a, ()))
theorem symMEn_ok : Sound Tryz.prog gl 124 (Con.fx [vi, vi, vi, .clo 98 []] cdw2q0 [] cdw2q0 (PIf.spec symMEnI)) := symKEn_ok FU
end Go.Ax.Cd
