/- Merged. -/
import Derived.Test.YteoeolfcpmalfaaGreatDoorQ24
namespace Go.Ax.Cd
open Go.Proofs
set_option linter.unusedVariables false
set_option maxRecDepth 100000
abbrev cdw2q0 : List OSh := [.arr (.st .en)]
@[reducible] def symREnI (rec : List En → Int → Int → Int → T (List En)) : PIf (VhL [.s (.own 0), vi, vi, vi, .clo 98 []] × OShL cdw2q0) (VhL [] × OShL cdw2q0) where
 α := List En
 tr x := rec x.2.1 x.1.2.1 x.1.2.2.1 x.1.2.2.2.1
 enc x a := ((), (a, ()))
abbrev symEnL4vs : List Vh := [.s (.ownC 0), vi, vi, vi, .clo 98 [], vi, vi, vi, vi, vi]
abbrev symEnL4os : List OSh := cdw2q0
noncomputable abbrev symEnL4fin : Fin := (Fin.one 1 Tryz.f124.ntmps (.exit 8) [0, 1, 2, 3, 4, 18, 19, 20] [.s (.ownC 0), vi, vi, vi, .clo 98 [], vi, vi, vi] cdw2q0)
noncomputable abbrev symEnL4Q (sp : VhL symEnL4vs × OShL symEnL4os → Option symEnL4fin.Y) : LCon := LCon.of Tryz.f124.ntmps [0, 1, 2, 3, 4, 18, 19, 20, 21, 22] symEnL4vs symEnL4os symEnL4fin sp
def symEnL4Step (v1 v2 v3 v4 v5 v8 : Int) (d : List En) (st : Int × Int) : T ((Int × Int) ⊕ (Int)) :=
 let v6 := st.1
 let v7 := st.2
 bif decide (v6 < v7) then
 bif inR (w64 (v8 - w64 (sh64 (w64u (w64 (v6 + v7))) 1))) d.length then
 bif inR (w64 (sh64 (w64u (w64 (v6 + v7))) 1)) d.length then
 (cmpEnTr (rdE (EK.st SN.en) d (w64 (v8 - w64 (sh64 (w64u (w64 (v6 + v7))) 1)))) (rdE (EK.st SN.en) d (w64 (sh64 (w64u (w64 (v6 + v7))) 1)))).bind fun x0 =>
 bif !decide (x0 < 0) then
 .ret (Sum.inl (w64 (w64 (sh64 (w64u (w64 (v6 + v7))) 1) + 1), v7))
 else
 .ret (Sum.inl (v6, w64 (sh64 (w64u (w64 (v6 + v7))) 1)))
 else
 .bot
 else
 .bot
 else
 .ret (Sum.inr v6)
@[reducible] def symEnL4I : PIf (VhL symEnL4vs × OShL symEnL4os) symEnL4fin.Y where
 α := Int
 tr x := T.loop (symEnL4Step x.1.2.1 x.1.2.2.1 x.1.2.2.2.1 x.1.2.2.2.2.2.1 x.1.2.2.2.2.2.2.1 x.1.2.2.2.2.2.2.2.2.2.1 x.2.1) FU (x.1.2.2.2.2.2.2.2.1, x.1.2.2.2.2.2.2.2.2.1)
 enc x a := ((x.1.1, x.1.2.1, x.1.2.2.1, x.1.2.2.2.1, (), x.1.2.2.2.2.2.1, x.1.2.2.2.2.2.2.1, a, ()), (x.2.1, ()))
theorem symEnL4_raw (sp_cmpEn : cmpEn_T) (sp_rotEn : rotEn_T) (sp_symREn : VhL [.s (.own 0), vi, vi, vi, .clo 98 []] × OShL cdw2q0 → Option (VhL [] × OShL cdw2q0)) (v0 : Value) (v1 v2 v3 v4 v5 v6 v7 v8 : Int) (d : List En) : runW 1 Tryz.f124 4 [0, 1, 2, 3, 4, 18, 19, 20, 21, 22] symEnL4vs symEnL4os symEnL4fin [(98, cmpEn_C sp_cmpEn), (130, rotEn_C sp_rotEn), (124, Con.fx [vi, vi, vi, .clo 98 []] cdw2q0 [] cdw2q0 sp_symREn)] [] [] (((v0, v1, v2, v3, (), v4, v5, v6, v7, v8, ()), (d, ())) : VhL symEnL4vs × OShL symEnL4os) = (bif decide (v6 < v7) then bif inR (w64 (v8 - w64 (sh64 (w64u (w64 (v6 + v7))) 1))) d.length then bif inR (w64 (sh64 (w64u (w64 (v6 + v7))) 1)) d.length then (sp_cmpEn ((rdE (EK.st SN.en) d (w64 (v8 - w64 (sh64 (w64u (w64 (v6 + v7))) 1))), rdE (EK.st SN.en) d (w64 (sh64 (w64u (w64 (v6 + v7))) 1)), ()), ())).bind fun val => bif !decide (val.1.1 < 0) then some (Sum.inl ((v0, v1, v2, v3, (), v4, v5, w64 (w64 (sh64 (w64u (w64 (v6 + v7))) 1) + 1), v7, v8, ()), d, ())) else some (Sum.inl ((v0, v1, v2, v3, (), v4, v5, v6, w64 (sh64 (w64u (w64 (v6 + v7))) 1), v8, ()), d, ())) else none else none
else some (Sum.inr ((v0, v1, v2, v3, (), v4, v5, v6, ()), d, ()))) := by kernel_rfl
theorem symEnL4_ok {rec : List En → Int → Int → Int → T (List En)} (symREn_ok : Sound Tryz.prog gl 124 (Con.fx [vi, vi, vi, .clo 98 []] cdw2q0 [] cdw2q0 (PIf.spec (symREnI rec)))) : LOk Tryz.prog gl 1 (symEnL4Q (PIf.spec symEnL4I)) (getL (body Tryz.f124) 4) := by
 refine lwk (Lc := []) (nh := []) (G := [(98, cmpEn_C cmpEnS), (130, rotEn_C rotEnS), (124, Con.fx [vi, vi, vi, .clo 98 []] cdw2q0 [] cdw2q0 (PIf.spec (symREnI rec)))]) (cmpEn_k (rotEn_k (GOk.cons ⟨Tryz.f124, body Tryz.f124, by kernel_rfl, by kernel_rfl, by kernel_rfl⟩ symREn_ok (GOk.nil)))) (noloopN (by kernel_rfl)) (Fin.one_ok _ _ _ _) ?_
 rintro ⟨⟨v0, v1, v2, v3, _, v4, v5, v6, v7, v8, _⟩, ⟨d, _⟩⟩ y hy
 refine ⟨_, loopP_ok (eX := fun (st : Int × Int) => (let v6 := st.1; let v7 := st.2; ((v0, v1, v2, v3, (), v4, v5, v6, v7, v8, ()), (d, ())) : VhL symEnL4vs × OShL symEnL4os)) (body := symEnL4Step v1 v2 v3 v4 v5 v8 d) (fun st =>?_) _ (v6, v7) y hy⟩
 obtain ⟨v6, v7⟩ := st
 refine (symEnL4_raw ..).trans ?_
 unfold symEnL4Step
 repeat' (first|refine cond_outP (fun _ =>?_) (fun _ =>?_)|(refine bindP (fun _ =>?_); try dsimp only [selim, cond_true, cond_false, Bool.not_true, Bool.not_false, one, mI, cmpEnI, rotEnI, symREnI]) | rfl)
abbrev symEnL3vs : List Vh := [.s (.ownC 0), vi, vi]
abbrev symEnL3os : List OSh := cdw2q0
noncomputable abbrev symEnL3fin : Fin := (Fin.one 1 Tryz.f124.ntmps (.exit 6) [0] [.s (.ownC 0)] cdw2q0)
noncomputable abbrev symEnL3Q (sp : VhL symEnL3vs × OShL symEnL3os → Option symEnL3fin.Y) : LCon := LCon.of Tryz.f124.ntmps [0, 14, 17] symEnL3vs symEnL3os symEnL3fin sp
def symEnL3Step (v1 : Int) (st : Int × List En) : T ((Int × List En) ⊕ (List En)) :=
 let v2 := st.1
 let d := st.2
 bif decide (v2 > v1) then
 bif inR (w64 (v2 - 1)) d.length then
 bif inR v2 d.length then
 bif inR v2 d.length then
 bif inR (w64 (v2 - 1)) (wrE (EK.st SN.en) d v2 (rdE (EK.st SN.en) d (w64 (v2 - 1)))).length then
 .ret (Sum.inl (w64 (v2 - 1), wrE (EK.st SN.en) (wrE (EK.st SN.en) d v2 (rdE (EK.st SN.en) d (w64 (v2 - 1)))) (w64 (v2 - 1)) (rdE (EK.st SN.en) d v2)))
 else
 .bot
 else
 .bot
 else
 .bot
 else
 .bot
 else
 .ret (Sum.inr d)
@[reducible] def symEnL3I : PIf (VhL symEnL3vs × OShL symEnL3os) symEnL3fin.Y where
 α := List En
 tr x := T.loop (symEnL3Step x.1.2.1) FU (x.1.2.2.1, x.2.1)
 enc x a := ((x.1.1, ()), (a, ()))
theorem symEnL3_raw (sp_cmpEn : cmpEn_T) (sp_rotEn : rotEn_T) (sp_symREn : VhL [.s (.own 0), vi, vi, vi, .clo 98 []] × OShL cdw2q0 → Option (VhL [] × OShL cdw2q0)) (v0 : Value) (v1 v2 : Int) (d : List En) : runW 1 Tryz.f124 3 [0, 14, 17] symEnL3vs symEnL3os symEnL3fin [(98, cmpEn_C sp_cmpEn), (130, rotEn_C sp_rotEn), (124, Con.fx [vi, vi, vi, .clo 98 []] cdw2q0 [] cdw2q0 sp_symREn)] [] [] (((v0, v1, v2, ()), (d, ())) : VhL symEnL3vs × OShL symEnL3os) = (bif decide (v2 > v1) then bif inR (w64 (v2 - 1)) d.length then bif inR v2 d.length then bif inR v2 d.length then bif inR (w64 (v2 - 1)) (wrE (EK.st SN.en) d v2 (rdE (EK.st SN.en) d (w64 (v2 - 1)))).length then some (Sum.inl ((v0, v1, w64 (v2 - 1), ()), wrE (EK.st SN.en) (wrE (EK.st SN.en) d v2 (rdE (EK.st SN.en) d (w64 (v2 - 1)))) (w64 (v2 - 1)) (rdE (EK.st SN.en) d v2), ())) else none else none else none else none
else some (Sum.inr ((v0, ()), d, ()))) := by kernel_rfl
theorem symEnL3_ok {rec : List En → Int → Int → Int → T (List En)} (symREn_ok : Sound Tryz.prog gl 124 (Con.fx [vi, vi, vi, .clo 98 []] cdw2q0 [] cdw2q0 (PIf.spec (symREnI rec)))) : LOk Tryz.prog gl 1 (symEnL3Q (PIf.spec symEnL3I)) (getL (body Tryz.f124) 3) := by
 refine lwk (Lc := []) (nh := []) (G := [(98, cmpEn_C cmpEnS), (130, rotEn_C rotEnS), (124, Con.fx [vi, vi, vi, .clo 98 []] cdw2q0 [] cdw2q0 (PIf.spec (symREnI rec)))]) (cmpEn_k (rotEn_k (GOk.cons ⟨Tryz.f124, body Tryz.f124, by kernel_rfl, by kernel_rfl, by kernel_rfl⟩ symREn_ok (GOk.nil)))) (noloopN (by kernel_rfl)) (Fin.one_ok _ _ _ _) ?_
 rintro ⟨⟨v0, v1, v2, _⟩, ⟨d, _⟩⟩ y hy
 refine ⟨_, loopP_ok (eX := fun (st : Int × List En) => (let v2 := st.1; let d := st.2; ((v0, v1, v2, ()), (d, ())) : VhL symEnL3vs × OShL symEnL3os)) (body := symEnL3Step v1) (fun st =>?_) _ (v2, d) y hy⟩
 obtain ⟨v2, d⟩ := st
 refine (symEnL3_raw ..).trans ?_
 unfold symEnL3Step
 repeat' (first|refine cond_outP (fun _ =>?_) (fun _ =>?_) | rfl)
abbrev symEnL2vs : List Vh := [.s (.ownC 0), vi, .clo 98 [], vi, vi]
abbrev symEnL2os : List OSh := cdw2q0
noncomputable abbrev symEnL2fin : Fin := (Fin.one 1 Tryz.f124.ntmps (.exit 4) [0, 2, 14] [.s (.ownC 0), vi, vi] cdw2q0)
noncomputable abbrev symEnL2Q (sp : VhL symEnL2vs × OShL symEnL2os → Option symEnL2fin.Y) : LCon := LCon.of Tryz.f124.ntmps [0, 2, 4, 14, 15] symEnL2vs symEnL2os symEnL2fin sp
def symEnL2Step (v1 : Int) (d : List En) (st : Int × Int) : T ((Int × Int) ⊕ (Int)) :=
 let v2 := st.1
 let v3 := st.2
 bif decide (v2 < v3) then
 bif inR v1 d.length then
 bif inR (w64 (sh64 (w64u (w64 (v2 + v3))) 1)) d.length then
 (cmpEnTr (rdE (EK.st SN.en) d v1) (rdE (EK.st SN.en) d (w64 (sh64 (w64u (w64 (v2 + v3))) 1)))).bind fun x0 =>
 bif !decide (x0 < 0) then
 .ret (Sum.inl (w64 (w64 (sh64 (w64u (w64 (v2 + v3))) 1) + 1), v3))
 else
 .ret (Sum.inl (v2, w64 (sh64 (w64u (w64 (v2 + v3))) 1)))
 else
 .bot
 else
 .bot
 else
 .ret (Sum.inr v2)
@[reducible] def symEnL2I : PIf (VhL symEnL2vs × OShL symEnL2os) symEnL2fin.Y where
 α := Int
 tr x := T.loop (symEnL2Step x.1.2.1 x.2.1) FU (x.1.2.2.2.1, x.1.2.2.2.2.1)
 enc x a := ((x.1.1, x.1.2.1, a, ()), (x.2.1, ()))
theorem symEnL2_raw (sp_cmpEn : cmpEn_T) (sp_rotEn : rotEn_T) (sp_symREn : VhL [.s (.own 0), vi, vi, vi, .clo 98 []] × OShL cdw2q0 → Option (VhL [] × OShL cdw2q0)) (v0 : Value) (v1 v2 v3 : Int) (d : List En) : runW 1 Tryz.f124 2 [0, 2, 4, 14, 15] symEnL2vs symEnL2os symEnL2fin [(98, cmpEn_C sp_cmpEn), (130, rotEn_C sp_rotEn), (124, Con.fx [vi, vi, vi, .clo 98 []] cdw2q0 [] cdw2q0 sp_symREn)] [] [] (((v0, v1, (), v2, v3, ()), (d, ())) : VhL symEnL2vs × OShL symEnL2os) = (bif decide (v2 < v3) then bif inR v1 d.length then bif inR (w64 (sh64 (w64u (w64 (v2 + v3))) 1)) d.length then (sp_cmpEn ((rdE (EK.st SN.en) d v1, rdE (EK.st SN.en) d (w64 (sh64 (w64u (w64 (v2 + v3))) 1)), ()), ())).bind fun val => bif !decide (val.1.1 < 0) then some (Sum.inl ((v0, v1, (), w64 (w64 (sh64 (w64u (w64 (v2 + v3))) 1) + 1), v3, ()), d, ())) else some (Sum.inl ((v0, v1, (), v2, w64 (sh64 (w64u (w64 (v2 + v3))) 1), ()), d, ())) else none else none
else some (Sum.inr ((v0, v1, v2, ()), d, ()))) := by kernel_rfl
theorem symEnL2_ok {rec : List En → Int → Int → Int → T (List En)} (symREn_ok : Sound Tryz.prog gl 124 (Con.fx [vi, vi, vi, .clo 98 []] cdw2q0 [] cdw2q0 (PIf.spec (symREnI rec)))) : LOk Tryz.prog gl 1 (symEnL2Q (PIf.spec symEnL2I)) (getL (body Tryz.f124) 2) := by
 refine lwk (Lc := []) (nh := []) (G := [(98, cmpEn_C cmpEnS), (130, rotEn_C rotEnS), (124, Con.fx [vi, vi, vi, .clo 98 []] cdw2q0 [] cdw2q0 (PIf.spec (symREnI rec)))]) (cmpEn_k (rotEn_k (GOk.cons ⟨Tryz.f124, body Tryz.f124, by kernel_rfl, by kernel_rfl, by kernel_rfl⟩ symREn_ok (GOk.nil)))) (noloopN (by kernel_rfl)) (Fin.one_ok _ _ _ _) ?_
 rintro ⟨⟨v0, v1, _, v2, v3, _⟩, ⟨d, _⟩⟩ y hy
 refine ⟨_, loopP_ok (eX := fun (st : Int × Int) => (let v2 := st.1; let v3 := st.2; ((v0, v1, (), v2, v3, ()), (d, ())) : VhL symEnL2vs × OShL symEnL2os)) (body := symEnL2Step v1 d) (fun st =>?_) _ (v2, v3) y hy⟩
 obtain ⟨v2, v3⟩ := st
 refine (symEnL2_raw ..).trans ?_
 unfold symEnL2Step
 repeat' (first|refine cond_outP (fun _ =>?_) (fun _ =>?_)|(refine bindP (fun _ =>?_); try dsimp only [selim, cond_true, cond_false, Bool.not_true, Bool.not_false, one, mI, cmpEnI, rotEnI, symREnI]) | rfl)
abbrev symEnL1vs : List Vh := [.s (.ownC 0), vi, vi]
abbrev symEnL1os : List OSh := cdw2q0
noncomputable abbrev symEnL1fin : Fin := (Fin.one 1 Tryz.f124.ntmps (.exit 2) [0] [.s (.ownC 0)] cdw2q0)
noncomputable abbrev symEnL1Q (sp : VhL symEnL1vs × OShL symEnL1os → Option symEnL1fin.Y) : LCon := LCon.of Tryz.f124.ntmps [0, 10, 13] symEnL1vs symEnL1os symEnL1fin sp
def symEnL1Step (v1 : Int) (st : Int × List En) : T ((Int × List En) ⊕ (List En)) :=
 let v2 := st.1
 let d := st.2
 bif decide (v2 < w64 (v1 - 1)) then
 bif inR (w64 (v2 + 1)) d.length then
 bif inR v2 d.length then
 bif inR v2 d.length then
 bif inR (w64 (v2 + 1)) (wrE (EK.st SN.en) d v2 (rdE (EK.st SN.en) d (w64 (v2 + 1)))).length then
 .ret (Sum.inl (w64 (v2 + 1), wrE (EK.st SN.en) (wrE (EK.st SN.en) d v2 (rdE (EK.st SN.en) d (w64 (v2 + 1)))) (w64 (v2 + 1)) (rdE (EK.st SN.en) d v2)))
 else
 .bot
 else
 .bot
 else
 .bot
 else
 .bot
 else
 .ret (Sum.inr d)
@[reducible] def symEnL1I : PIf (VhL symEnL1vs × OShL symEnL1os) symEnL1fin.Y where
 α := List En
 tr x := T.loop (symEnL1Step x.1.2.1) FU (x.1.2.2.1, x.2.1)
 enc x a := ((x.1.1, ()), (a, ()))
theorem symEnL1_raw (sp_cmpEn : cmpEn_T) (sp_rotEn : rotEn_T) (sp_symREn : VhL [.s (.own 0), vi, vi, vi, .clo 98 []] × OShL cdw2q0 → Option (VhL [] × OShL cdw2q0)) (v0 : Value) (v1 v2 : Int) (d : List En) : runW 1 Tryz.f124 1 [0, 10, 13] symEnL1vs symEnL1os symEnL1fin [(98, cmpEn_C sp_cmpEn), (130, rotEn_C sp_rotEn), (124, Con.fx [vi, vi, vi, .clo 98 []] cdw2q0 [] cdw2q0 sp_symREn)] [] [] (((v0, v1, v2, ()), (d, ())) : VhL symEnL1vs × OShL symEnL1os) = (bif decide (v2 < w64 (v1 - 1)) then bif inR (w64 (v2 + 1)) d.length then bif inR v2 d.length then bif inR v2 d.length then bif inR (w64 (v2 + 1)) (wrE (EK.st SN.en) d v2 (rdE (EK.st SN.en) d (w64 (v2 + 1)))).length then some (Sum.inl ((v0, v1, w64 (v2 + 1), ()), wrE (EK.st SN.en) (wrE (EK.st SN.en) d v2 (rdE (EK.st SN.en) d (w64 (v2 + 1)))) (w64 (v2 + 1)) (rdE (EK.st SN.en) d v2), ())) else none else none else none else none
else some (Sum.inr ((v0, ()), d, ()))) := by kernel_rfl
theorem symEnL1_ok {rec : List En → Int → Int → Int → T (List En)} (symREn_ok : Sound Tryz.prog gl 124 (Con.fx [vi, vi, vi, .clo 98 []] cdw2q0 [] cdw2q0 (PIf.spec (symREnI rec)))) : LOk Tryz.prog gl 1 (symEnL1Q (PIf.spec symEnL1I)) (getL (body Tryz.f124) 1) := by
 refine lwk (Lc := []) (nh := []) (G := [(98, cmpEn_C cmpEnS), (130, rotEn_C rotEnS), (124, Con.fx [vi, vi, vi, .clo 98 []] cdw2q0 [] cdw2q0 (PIf.spec (symREnI rec)))]) (cmpEn_k (rotEn_k (GOk.cons ⟨Tryz.f124, body Tryz.f124, by kernel_rfl, by kernel_rfl, by kernel_rfl⟩ symREn_ok (GOk.nil)))) (noloopN (by kernel_rfl)) (Fin.one_ok _ _ _ _) ?_
 rintro ⟨⟨v0, v1, v2, _⟩, ⟨d, _⟩⟩ y hy
 refine ⟨_, loopP_ok (eX := fun (st : Int × List En) => (let v2 := st.1; let d := st.2; ((v0, v1, v2, ()), (d, ())) : VhL symEnL1vs × OShL symEnL1os)) (body := symEnL1Step v1) (fun st =>?_) _ (v2, d) y hy⟩
 obtain ⟨v2, d⟩ := st
 refine (symEnL1_raw ..).trans ?_
 unfold symEnL1Step
 repeat' (first|refine cond_outP (fun _ =>?_) (fun _ =>?_) | rfl)
abbrev symEnL0vs : List Vh := [.s (.ownC 0), vi, .clo 98 [], vi, vi]
abbrev symEnL0os : List OSh := cdw2q0
noncomputable abbrev symEnL0fin : Fin := (Fin.one 1 Tryz.f124.ntmps (.exit 0) [0, 1, 10] [.s (.ownC 0), vi, vi] cdw2q0)
noncomputable abbrev symEnL0Q (sp : VhL symEnL0vs × OShL symEnL0os → Option symEnL0fin.Y) : LCon := LCon.of Tryz.f124.ntmps [0, 1, 4, 10, 11] symEnL0vs symEnL0os symEnL0fin sp
def symEnL0Step (v1 : Int) (d : List En) (st : Int × Int) : T ((Int × Int) ⊕ (Int)) :=
 let v2 := st.1
 let v3 := st.2
 bif decide (v2 < v3) then
 bif inR (w64 (sh64 (w64u (w64 (v2 + v3))) 1)) d.length then
 bif inR v1 d.length then
 (cmpEnTr (rdE (EK.st SN.en) d (w64 (sh64 (w64u (w64 (v2 + v3))) 1))) (rdE (EK.st SN.en) d v1)).bind fun x0 =>
 bif decide (x0 < 0) then
 .ret (Sum.inl (w64 (w64 (sh64 (w64u (w64 (v2 + v3))) 1) + 1), v3))
 else
 .ret (Sum.inl (v2, w64 (sh64 (w64u (w64 (v2 + v3))) 1)))
 else
 .bot
 else
 .bot
 else
 .ret (Sum.inr v2)
@[reducible] def symEnL0I : PIf (VhL symEnL0vs × OShL symEnL0os) symEnL0fin.Y where
 α := Int
 tr x := T.loop (symEnL0Step x.1.2.1 x.2.1) FU (x.1.2.2.2.1, x.1.2.2.2.2.1)
 enc x a := ((x.1.1, x.1.2.1, a, ()), (x.2.1, ()))
theorem symEnL0_raw (sp_cmpEn : cmpEn_T) (sp_rotEn : rotEn_T) (sp_symREn : VhL [.s (.own 0), vi, vi, vi, .clo 98 []] × OShL cdw2q0 → Option (VhL [] × OShL cdw2q0)) (v0 : Value) (v1 v2 v3 : Int) (d : List En) : runW 1 Tryz.f124 0 [0, 1, 4, 10, 11] symEnL0vs symEnL0os symEnL0fin [(98, cmpEn_C sp_cmpEn), (130, rotEn_C sp_rotEn), (124, Con.fx [vi, vi, vi, .clo 98 []] cdw2q0 [] cdw2q0 sp_symREn)] [] [] (((v0, v1, (), v2, v3, ()), (d, ())) : VhL symEnL0vs × OShL symEnL0os) = (bif decide (v2 < v3) then bif inR (w64 (sh64 (w64u (w64 (v2 + v3))) 1)) d.length then bif inR v1 d.length then (sp_cmpEn ((rdE (EK.st SN.en) d (w64 (sh64 (w64u (w64 (v2 + v3))) 1)), rdE (EK.st SN.en) d v1, ()), ())).bind fun val => bif decide (val.1.1 < 0) then some (Sum.inl ((v0, v1, (), w64 (w64 (sh64 (w64u (w64 (v2 + v3))) 1) + 1), v3, ()), d, ())) else some (Sum.inl ((v0, v1, (), v2, w64 (sh64 (w64u (w64 (v2 + v3))) 1), ()), d, ())) else none else none
else some (Sum.inr ((v0, v1, v2, ()), d, ()))) := by kernel_rfl
theorem symEnL0_ok {rec : List En → Int → Int → Int → T (List En)} (symREn_ok : Sound Tryz.prog gl 124 (Con.fx [vi, vi, vi, .clo 98 []] cdw2q0 [] cdw2q0 (PIf.spec (symREnI rec)))) : LOk Tryz.prog gl 1 (symEnL0Q (PIf.spec symEnL0I)) (getL (body Tryz.f124) 0) := by
 refine lwk (Lc := []) (nh := []) (G := [(98, cmpEn_C cmpEnS), (130, rotEn_C rotEnS), (124, Con.fx [vi, vi, vi, .clo 98 []] cdw2q0 [] cdw2q0 (PIf.spec (symREnI rec)))]) (cmpEn_k (rotEn_k (GOk.cons ⟨Tryz.f124, body Tryz.f124, by kernel_rfl, by kernel_rfl, by kernel_rfl⟩ symREn_ok (GOk.nil)))) (noloopN (by kernel_rfl)) (Fin.one_ok _ _ _ _) ?_
 rintro ⟨⟨v0, v1, _, v2, v3, _⟩, ⟨d, _⟩⟩ y hy
 refine ⟨_, loopP_ok (eX := fun (st : Int × Int) => (let v2 := st.1; let v3 := st.2; ((v0, v1, (), v2, v3, ()), (d, ())) : VhL symEnL0vs × OShL symEnL0os)) (body := symEnL0Step v1 d) (fun st =>?_) _ (v2, v3) y hy⟩
 obtain ⟨v2, v3⟩ := st
 refine (symEnL0_raw ..).trans ?_
 unfold symEnL0Step
 repeat' (first|refine cond_outP (fun _ =>?_) (fun _ =>?_)|(refine bindP (fun _ =>?_); try dsimp only [selim, cond_true, cond_false, Bool.not_true, Bool.not_false, one, mI, cmpEnI, rotEnI, symREnI]) | rfl)
def symEnTr (rec : List En → Int → Int → Int → T (List En)) (a m b : Int) (d : List En) : T (List En) :=
 bif w64 (m - a) == 1 then
 (T.loop (symEnL0Step a d) 4611686018427387904 (m, b)).bind fun x0 =>
 (T.loop (symEnL1Step x0) 4611686018427387904 (a, d)).bind fun x1 =>
 .ret x1
 else
 bif w64 (b - m) == 1 then
 (T.loop (symEnL2Step m d) 4611686018427387904 (a, m)).bind fun x0 =>
 (T.loop (symEnL3Step x0) 4611686018427387904 (m, d)).bind fun x1 =>
 .ret x1
 else
 bif decide (m > w64 (sh64 (w64u (w64 (a + b))) 1)) then
 (T.loop (symEnL4Step a m b (w64 (sh64 (w64u (w64 (a + b))) 1)) (w64 (w64 (sh64 (w64u (w64 (a + b))) 1) + m)) (w64 (w64 (w64 (sh64 (w64u (w64 (a + b))) 1) + m) - 1)) d) 4611686018427387904 (w64 (w64 (w64 (sh64 (w64u (w64 (a + b))) 1) + m) - b), w64 (sh64 (w64u (w64 (a + b))) 1))).bind fun x0 =>
 bif decide (x0 < m) then
 bif decide (m < w64 (w64 (w64 (sh64 (w64u (w64 (a + b))) 1) + m) - x0)) then
 (rotEnTr x0 m (w64 (w64 (w64 (sh64 (w64u (w64 (a + b))) 1) + m) - x0)) d).bind fun x1 =>
 bif decide (a < x0) then
 bif decide (x0 < w64 (sh64 (w64u (w64 (a + b))) 1)) then
 (rec x1 a x0 (w64 (sh64 (w64u (w64 (a + b))) 1))).bind fun x2 =>
 bif decide (w64 (sh64 (w64u (w64 (a + b))) 1) < w64 (w64 (w64 (sh64 (w64u (w64 (a + b))) 1) + m) - x0)) then
 bif decide (w64 (w64 (w64 (sh64 (w64u (w64 (a + b))) 1) + m) - x0) < b) then
 (rec x2 (w64 (sh64 (w64u (w64 (a + b))) 1)) (w64 (w64 (w64 (sh64 (w64u (w64 (a + b))) 1) + m) - x0)) b).bind fun x3 =>
 .ret x3
 else
 .ret x2
 else
 .ret x2
 else
 bif decide (w64 (sh64 (w64u (w64 (a + b))) 1) < w64 (w64 (w64 (sh64 (w64u (w64 (a + b))) 1) + m) - x0)) then
 bif decide (w64 (w64 (w64 (sh64 (w64u (w64 (a + b))) 1) + m) - x0) < b) then
 (rec x1 (w64 (sh64 (w64u (w64 (a + b))) 1)) (w64 (w64 (w64 (sh64 (w64u (w64 (a + b))) 1) + m) - x0)) b).bind fun x2 =>
 .ret x2
 else
 .ret x1
 else
 .ret x1
 else
 bif decide (w64 (sh64 (w64u (w64 (a + b))) 1) < w64 (w64 (w64 (sh64 (w64u (w64 (a + b))) 1) + m) - x0)) then
 bif decide (w64 (w64 (w64 (sh64 (w64u (w64 (a + b))) 1) + m) - x0) < b) then
 (rec x1 (w64 (sh64 (w64u (w64 (a + b))) 1)) (w64 (w64 (w64 (sh64 (w64u (w64 (a + b))) 1) + m) - x0)) b).bind fun x2 =>
 .ret x2
 else
 .ret x1
 else
 .ret x1
 else
 bif decide (a < x0) then
 bif decide (x0 < w64 (sh64 (w64u (w64 (a + b))) 1)) then
 (rec d a x0 (w64 (sh64 (w64u (w64 (a + b))) 1))).bind fun x1 =>
 bif decide (w64 (sh64 (w64u (w64 (a + b))) 1) < w64 (w64 (w64 (sh64 (w64u (w64 (a + b))) 1) + m) - x0)) then
 bif decide (w64 (w64 (w64 (sh64 (w64u (w64 (a + b))) 1) + m) - x0) < b) then
 (rec x1 (w64 (sh64 (w64u (w64 (a + b))) 1)) (w64 (w64 (w64 (sh64 (w64u (w64 (a + b))) 1) + m) - x0)) b).bind fun x2 =>
 .ret x2
 else
 .ret x1
 else
 .ret x1
 else
 bif decide (w64 (sh64 (w64u (w64 (a + b))) 1) < w64 (w64 (w64 (sh64 (w64u (w64 (a + b))) 1) + m) - x0)) then
 bif decide (w64 (w64 (w64 (sh64 (w64u (w64 (a + b))) 1) + m) - x0) < b) then
 (rec d (w64 (sh64 (w64u (w64 (a + b))) 1)) (w64 (w64 (w64 (sh64 (w64u (w64 (a + b))) 1) + m) - x0)) b).bind fun x1 =>
 .ret x1
 else
 .ret d
 else
 .ret d
 else
 bif decide (w64 (sh64 (w64u (w64 (a + b))) 1) < w64 (w64 (w64 (sh64 (w64u (w64 (a + b))) 1) + m) - x0)) then
 bif decide (w64 (w64 (w64 (sh64 (w64u (w64 (a + b))) 1) + m) - x0) < b) then
 (rec d (w64 (sh64 (w64u (w64 (a + b))) 1)) (w64 (w64 (w64 (sh64 (w64u (w64 (a + b))) 1) + m) - x0)) b).bind fun x1 =>
 .ret x1
 else
 .ret d
 else
 .ret d
 else
 bif decide (a < x0) then
 bif decide (x0 < w64 (sh64 (w64u (w64 (a + b))) 1)) then
 (rec d a x0 (w64 (sh64 (w64u (w64 (a + b))) 1))).bind fun x1 =>
 bif decide (w64 (sh64 (w64u (w64 (a + b))) 1) < w64 (w64 (w64 (sh64 (w64u (w64 (a + b))) 1) + m) - x0)) then
 bif decide (w64 (w64 (w64 (sh64 (w64u (w64 (a + b))) 1) + m) - x0) < b) then
 (rec x1 (w64 (sh64 (w64u (w64 (a + b))) 1)) (w64 (w64 (w64 (sh64 (w64u (w64 (a + b))) 1) + m) - x0)) b).bind fun x2 =>
 .ret x2
 else
 .ret x1
 else
 .ret x1
 else
 bif decide (w64 (sh64 (w64u (w64 (a + b))) 1) < w64 (w64 (w64 (sh64 (w64u (w64 (a + b))) 1) + m) - x0)) then
 bif decide (w64 (w64 (w64 (sh64 (w64u (w64 (a + b))) 1) + m) - x0) < b) then
 (rec d (w64 (sh64 (w64u (w64 (a + b))) 1)) (w64 (w64 (w64 (sh64 (w64u (w64 (a + b))) 1) + m) - x0)) b).bind fun x1 =>
 .ret x1
 else
 .ret d
 else
 .ret d
 else
 bif decide (w64 (sh64 (w64u (w64 (a + b))) 1) < w64 (w64 (w64 (sh64 (w64u (w64 (a + b))) 1) + m) - x0)) then
 bif decide (w64 (w64 (w64 (sh64 (w64u (w64 (a + b))) 1) + m) - x0) < b) then
 (rec d (w64 (sh64 (w64u (w64 (a + b))) 1)) (w64 (w64 (w64 (sh64 (w64u (w64 (a + b))) 1) + m) - x0)) b).bind fun x1 =>
 .ret x1
 else
 .ret d
 else
 .ret d
 else
 (T.loop (symEnL4Step a m b (w64 (sh64 (w64u (w64 (a + b))) 1)) (w64 (w64 (sh64 (w64u (w64 (a + b))) 1) + m)) (w64 (w64 (w64 (sh64 (w64u (w64 (a + b))) 1) + m) - 1)) d) 4611686018427387904 (a, m)).bind fun x0 =>
 bif decide (x0 < m) then
 bif decide (m < w64 (w64 (w64 (sh64 (w64u (w64 (a + b))) 1) + m) - x0)) then
 (rotEnTr x0 m (w64 (w64 (w64 (sh64 (w64u (w64 (a + b))) 1) + m) - x0)) d).bind fun x1 =>
 bif decide (a < x0) then
 bif decide (x0 < w64 (sh64 (w64u (w64 (a + b))) 1)) then
 (rec x1 a x0 (w64 (sh64 (w64u (w64 (a + b))) 1))).bind fun x2 =>
 bif decide (w64 (sh64 (w64u (w64 (a + b))) 1) < w64 (w64 (w64 (sh64 (w64u (w64 (a + b))) 1) + m) - x0)) then
 bif decide (w64 (w64 (w64 (sh64 (w64u (w64 (a + b))) 1) + m) - x0) < b) then
 (rec x2 (w64 (sh64 (w64u (w64 (a + b))) 1)) (w64 (w64 (w64 (sh64 (w64u (w64 (a + b))) 1) + m) - x0)) b).bind fun x3 =>
 .ret x3
 else
 .ret x2
 else
 .ret x2
 else
 bif decide (w64 (sh64 (w64u (w64 (a + b))) 1) < w64 (w64 (w64 (sh64 (w64u (w64 (a + b))) 1) + m) - x0)) then
 bif decide (w64 (w64 (w64 (sh64 (w64u (w64 (a + b))) 1) + m) - x0) < b) then
 (rec x1 (w64 (sh64 (w64u (w64 (a + b))) 1)) (w64 (w64 (w64 (sh64 (w64u (w64 (a + b))) 1) + m) - x0)) b).bind fun x2 =>
 .ret x2
 else
 .ret x1
 else
 .ret x1
 else
 bif decide (w64 (sh64 (w64u (w64 (a + b))) 1) < w64 (w64 (w64 (sh64 (w64u (w64 (a + b))) 1) + m) - x0)) then
 bif decide (w64 (w64 (w64 (sh64 (w64u (w64 (a + b))) 1) + m) - x0) < b) then
 (rec x1 (w64 (sh64 (w64u (w64 (a + b))) 1)) (w64 (w64 (w64 (sh64 (w64u (w64 (a + b))) 1) + m) - x0)) b).bind fun x2 =>
 .ret x2
 else
 .ret x1
 else
 .ret x1
 else
 bif decide (a < x0) then
 bif decide (x0 < w64 (sh64 (w64u (w64 (a + b))) 1)) then
 (rec d a x0 (w64 (sh64 (w64u (w64 (a + b))) 1))).bind fun x1 =>
 bif decide (w64 (sh64 (w64u (w64 (a + b))) 1) < w64 (w64 (w64 (sh64 (w64u (w64 (a + b))) 1) + m) - x0)) then
 bif decide (w64 (w64 (w64 (sh64 (w64u (w64 (a + b))) 1) + m) - x0) < b) then
 (rec x1 (w64 (sh64 (w64u (w64 (a + b))) 1)) (w64 (w64 (w64 (sh64 (w64u (w64 (a + b))) 1) + m) - x0)) b).bind fun x2 =>
 .ret x2
 else
 .ret x1
 else
 .ret x1
 else
 bif decide (w64 (sh64 (w64u (w64 (a + b))) 1) < w64 (w64 (w64 (sh64 (w64u (w64 (a + b))) 1) + m) - x0)) then
 bif decide (w64 (w64 (w64 (sh64 (w64u (w64 (a + b))) 1) + m) - x0) < b) then
 (rec d (w64 (sh64 (w64u (w64 (a + b))) 1)) (w64 (w64 (w64 (sh64 (w64u (w64 (a + b))) 1) + m) - x0)) b).bind fun x1 =>
 .ret x1
 else
 .ret d
 else
 .ret d
 else
 bif decide (w64 (sh64 (w64u (w64 (a + b))) 1) < w64 (w64 (w64 (sh64 (w64u (w64 (a + b))) 1) + m) - x0)) then
 bif decide (w64 (w64 (w64 (sh64 (w64u (w64 (a + b))) 1) + m) - x0) < b) then
 (rec d (w64 (sh64 (w64u (w64 (a + b))) 1)) (w64 (w64 (w64 (sh64 (w64u (w64 (a + b))) 1) + m) - x0)) b).bind fun x1 =>
 .ret x1
 else
 .ret d
 else
 .ret d
 else
 bif decide (a < x0) then
 bif decide (x0 < w64 (sh64 (w64u (w64 (a + b))) 1)) then
 (rec d a x0 (w64 (sh64 (w64u (w64 (a + b))) 1))).bind fun x1 =>
 bif decide (w64 (sh64 (w64u (w64 (a + b))) 1) < w64 (w64 (w64 (sh64 (w64u (w64 (a + b))) 1) + m) - x0)) then
 bif decide (w64 (w64 (w64 (sh64 (w64u (w64 (a + b))) 1) + m) - x0) < b) then
 (rec x1 (w64 (sh64 (w64u (w64 (a + b))) 1)) (w64 (w64 (w64 (sh64 (w64u (w64 (a + b))) 1) + m) - x0)) b).bind fun x2 =>
 .ret x2
 else
 .ret x1
 else
 .ret x1
 else
 bif decide (w64 (sh64 (w64u (w64 (a + b))) 1) < w64 (w64 (w64 (sh64 (w64u (w64 (a + b))) 1) + m) - x0)) then
 bif decide (w64 (w64 (w64 (sh64 (w64u (w64 (a + b))) 1) + m) - x0) < b) then
 (rec d (w64 (sh64 (w64u (w64 (a + b))) 1)) (w64 (w64 (w64 (sh64 (w64u (w64 (a + b))) 1) + m) - x0)) b).bind fun x1 =>
 .ret x1
 else
 .ret d
 else
 .ret d
 else
 bif decide (w64 (sh64 (w64u (w64 (a + b))) 1) < w64 (w64 (w64 (sh64 (w64u (w64 (a + b))) 1) + m) - x0)) then
 bif decide (w64 (w64 (w64 (sh64 (w64u (w64 (a + b))) 1) + m) - x0) < b) then
 (rec d (w64 (sh64 (w64u (w64 (a + b))) 1)) (w64 (w64 (w64 (sh64 (w64u (w64 (a + b))) 1) + m) - x0)) b).bind fun x1 =>
 .ret x1
 else
 .ret d
 else
 .ret d
@[reducible] def symEnCI (rec : List En → Int → Int → Int → T (List En)) : PIf (VhL [.s (.ownC 0), vi, vi, vi, .clo 98 []] × OShL cdw2q0) (VhL [.s (.ownC 0)] × OShL cdw2q0) where
 α := List En
 tr x := (symEnTr rec) x.1.2.1 x.1.2.2.1 x.1.2.2.2.1 x.2.1
 enc x a := ((x.1.1, ()), (a, ()))
@[reducible] def symEnI (rec : List En → Int → Int → Int → T (List En)) : PIf (VhL [.s (.own 0), vi, vi, vi, .clo 98 []] × OShL cdw2q0) (VhL [] × OShL cdw2q0) where
 α := List En
 tr x := (symEnTr rec) x.1.2.1 x.1.2.2.1 x.1.2.2.2.1 x.2.1
 enc x a := ((), (a, ()))
abbrev symEn_T : Type := VhL [.s (.own 0), vi, vi, vi, .clo 98 []] × OShL cdw2q0 → Option (VhL [] × OShL cdw2q0)
noncomputable abbrev symEn_C (sp : symEn_T) : Con := Con.fx [vi, vi, vi, .clo 98 []] cdw2q0 [] cdw2q0 sp
theorem symEn_raw (sp_cmpEn : cmpEn_T) (sp_rotEn : rotEn_T) (sp_symREn : VhL [.s (.own 0), vi, vi, vi, .clo 98 []] × OShL cdw2q0 → Option (VhL [] × OShL cdw2q0)) (sp_symEnL0 : VhL symEnL0vs × OShL symEnL0os → Option symEnL0fin.Y) (sp_symEnL1 : VhL symEnL1vs × OShL symEnL1os → Option symEnL1fin.Y) (sp_symEnL2 : VhL symEnL2vs × OShL symEnL2os → Option symEnL2fin.Y) (sp_symEnL3 : VhL symEnL3vs × OShL symEnL3os → Option symEnL3fin.Y) (sp_symEnL4 : VhL symEnL4vs × OShL symEnL4os → Option symEnL4fin.Y) (c0 : Value) (a m b : Int) (d : List En) : runX Tryz.f124 [vi, vi, vi, .clo 98 []] cdw2q0 [] cdw2q0 [(98, cmpEn_C sp_cmpEn), (130, rotEn_C sp_rotEn), (124, Con.fx [vi, vi, vi, .clo 98 []] cdw2q0 [] cdw2q0 sp_symREn)] [(3, symEnL0Q sp_symEnL0), (9, symEnL1Q sp_symEnL1), (15, symEnL2Q sp_symEnL2), (21, symEnL3Q sp_symEnL3), (33, symEnL4Q sp_symEnL4)] [] (((c0, a, m, b, (), ()), (d, ())) : VhL [.s (.ownC 0), vi, vi, vi, .clo 98 []] × OShL cdw2q0) = (bif w64 (m - a) == 1 then (sp_symEnL0 ((c0, a, (), m, b, ()), d, ())).bind fun val => (sp_symEnL1 ((val.1.1, val.1.2.2.1, val.1.2.1, ()), val.2.1, ())).bind fun val => some ((val.1.1, ()), val.2.1, ())
else
 bif w64 (b - m) == 1 then (sp_symEnL2 ((c0, m, (), a, m, ()), d, ())).bind fun val => (sp_symEnL3 ((val.1.1, val.1.2.2.1, val.1.2.1, ()), val.2.1, ())).bind fun val => some ((val.1.1, ()), val.2.1, ())
 else
  bif decide (m > w64 (sh64 (w64u (w64 (a + b))) 1)) then
   (sp_symEnL4
      ((c0, a, m, b, (), w64 (sh64 (w64u (w64 (a + b))) 1), w64 (w64 (sh64 (w64u (w64 (a + b))) 1) + m), w64 (w64 (w64 (sh64 (w64u (w64 (a + b))) 1) + m) - b), w64 (sh64 (w64u (w64 (a + b))) 1),
        w64 (w64 (w64 (sh64 (w64u (w64 (a + b))) 1) + m) - 1), ()),
       d, ())).bind
    fun val =>
    bif decide (val.1.2.2.2.2.2.2.2.1 < val.1.2.2.1) then
     bif decide (val.1.2.2.1 < w64 (val.1.2.2.2.2.2.2.1 - val.1.2.2.2.2.2.2.2.1)) then
      (sp_rotEn (((), val.1.2.2.2.2.2.2.2.1, val.1.2.2.1, w64 (val.1.2.2.2.2.2.2.1 - val.1.2.2.2.2.2.2.2.1), (), ()), val.2.1, ())).bind fun val_1 =>
       bif decide (val.1.2.1 < val.1.2.2.2.2.2.2.2.1) then
        bif decide (val.1.2.2.2.2.2.2.2.1 < val.1.2.2.2.2.2.1) then
         (sp_symREn (((), val.1.2.1, val.1.2.2.2.2.2.2.2.1, val.1.2.2.2.2.2.1, (), ()), val_1.2.1, ())).bind fun val_2 =>
          bif decide (val.1.2.2.2.2.2.1 < w64 (val.1.2.2.2.2.2.2.1 - val.1.2.2.2.2.2.2.2.1)) then
           bif decide (w64 (val.1.2.2.2.2.2.2.1 - val.1.2.2.2.2.2.2.2.1) < val.1.2.2.2.1) then
            (sp_symREn (((), val.1.2.2.2.2.2.1, w64 (val.1.2.2.2.2.2.2.1 - val.1.2.2.2.2.2.2.2.1), val.1.2.2.2.1, (), ()), val_2.2.1, ())).bind fun val_3 =>
             some ((val.1.1, ()), val_3.2.1, ())
           else some ((val.1.1, ()), val_2.2.1, ())
          else some ((val.1.1, ()), val_2.2.1, ())
        else
         bif decide (val.1.2.2.2.2.2.1 < w64 (val.1.2.2.2.2.2.2.1 - val.1.2.2.2.2.2.2.2.1)) then
          bif decide (w64 (val.1.2.2.2.2.2.2.1 - val.1.2.2.2.2.2.2.2.1) < val.1.2.2.2.1) then
           (sp_symREn (((), val.1.2.2.2.2.2.1, w64 (val.1.2.2.2.2.2.2.1 - val.1.2.2.2.2.2.2.2.1), val.1.2.2.2.1, (), ()), val_1.2.1, ())).bind fun val_2 =>
            some ((val.1.1, ()), val_2.2.1, ())
          else some ((val.1.1, ()), val_1.2.1, ())
         else some ((val.1.1, ()), val_1.2.1, ())
       else
        bif decide (val.1.2.2.2.2.2.1 < w64 (val.1.2.2.2.2.2.2.1 - val.1.2.2.2.2.2.2.2.1)) then
         bif decide (w64 (val.1.2.2.2.2.2.2.1 - val.1.2.2.2.2.2.2.2.1) < val.1.2.2.2.1) then
          (sp_symREn (((), val.1.2.2.2.2.2.1, w64 (val.1.2.2.2.2.2.2.1 - val.1.2.2.2.2.2.2.2.1), val.1.2.2.2.1, (), ()), val_1.2.1, ())).bind fun val_2 =>
           some ((val.1.1, ()), val_2.2.1, ())
         else some ((val.1.1, ()), val_1.2.1, ())
        else some ((val.1.1, ()), val_1.2.1, ())
     else
      bif decide (val.1.2.1 < val.1.2.2.2.2.2.2.2.1) then
       bif decide (val.1.2.2.2.2.2.2.2.1 < val.1.2.2.2.2.2.1) then
        (sp_symREn (((), val.1.2.1, val.1.2.2.2.2.2.2.2.1, val.1.2.2.2.2.2.1, (), ()), val.2.1, ())).bind fun val_1 =>
         bif decide (val.1.2.2.2.2.2.1 < w64 (val.1.2.2.2.2.2.2.1 - val.1.2.2.2.2.2.2.2.1)) then
          bif decide (w64 (val.1.2.2.2.2.2.2.1 - val.1.2.2.2.2.2.2.2.1) < val.1.2.2.2.1) then
           (sp_symREn (((), val.1.2.2.2.2.2.1, w64 (val.1.2.2.2.2.2.2.1 - val.1.2.2.2.2.2.2.2.1), val.1.2.2.2.1, (), ()), val_1.2.1, ())).bind fun val_2 =>
            some ((val.1.1, ()), val_2.2.1, ())
          else some ((val.1.1, ()), val_1.2.1, ())
         else some ((val.1.1, ()), val_1.2.1, ())
       else
        bif decide (val.1.2.2.2.2.2.1 < w64 (val.1.2.2.2.2.2.2.1 - val.1.2.2.2.2.2.2.2.1)) then
         bif decide (w64 (val.1.2.2.2.2.2.2.1 - val.1.2.2.2.2.2.2.2.1) < val.1.2.2.2.1) then
          (sp_symREn (((), val.1.2.2.2.2.2.1, w64 (val.1.2.2.2.2.2.2.1 - val.1.2.2.2.2.2.2.2.1), val.1.2.2.2.1, (), ()), val.2.1, ())).bind fun val_1 =>
           some ((val.1.1, ()), val_1.2.1, ())
         else some ((val.1.1, ()), val.2.1, ())
        else some ((val.1.1, ()), val.2.1, ())
      else
       bif decide (val.1.2.2.2.2.2.1 < w64 (val.1.2.2.2.2.2.2.1 - val.1.2.2.2.2.2.2.2.1)) then
        bif decide (w64 (val.1.2.2.2.2.2.2.1 - val.1.2.2.2.2.2.2.2.1) < val.1.2.2.2.1) then
         (sp_symREn (((), val.1.2.2.2.2.2.1, w64 (val.1.2.2.2.2.2.2.1 - val.1.2.2.2.2.2.2.2.1), val.1.2.2.2.1, (), ()), val.2.1, ())).bind fun val_1 =>
          some ((val.1.1, ()), val_1.2.1, ())
        else some ((val.1.1, ()), val.2.1, ())
       else some ((val.1.1, ()), val.2.1, ())
    else
     bif decide (val.1.2.1 < val.1.2.2.2.2.2.2.2.1) then
      bif decide (val.1.2.2.2.2.2.2.2.1 < val.1.2.2.2.2.2.1) then
       (sp_symREn (((), val.1.2.1, val.1.2.2.2.2.2.2.2.1, val.1.2.2.2.2.2.1, (), ()), val.2.1, ())).bind fun val_1 =>
        bif decide (val.1.2.2.2.2.2.1 < w64 (val.1.2.2.2.2.2.2.1 - val.1.2.2.2.2.2.2.2.1)) then
         bif decide (w64 (val.1.2.2.2.2.2.2.1 - val.1.2.2.2.2.2.2.2.1) < val.1.2.2.2.1) then
          (sp_symREn (((), val.1.2.2.2.2.2.1, w64 (val.1.2.2.2.2.2.2.1 - val.1.2.2.2.2.2.2.2.1), val.1.2.2.2.1, (), ()), val_1.2.1, ())).bind fun val_2 =>
           some ((val.1.1, ()), val_2.2.1, ())
         else some ((val.1.1, ()), val_1.2.1, ())
        else some ((val.1.1, ()), val_1.2.1, ())
      else
       bif decide (val.1.2.2.2.2.2.1 < w64 (val.1.2.2.2.2.2.2.1 - val.1.2.2.2.2.2.2.2.1)) then
        bif decide (w64 (val.1.2.2.2.2.2.2.1 - val.1.2.2.2.2.2.2.2.1) < val.1.2.2.2.1) then
         (sp_symREn (((), val.1.2.2.2.2.2.1, w64 (val.1.2.2.2.2.2.2.1 - val.1.2.2.2.2.2.2.2.1), val.1.2.2.2.1, (), ()), val.2.1, ())).bind fun val_1 =>
          some ((val.1.1, ()), val_1.2.1, ())
        else some ((val.1.1, ()), val.2.1, ())
       else some ((val.1.1, ()), val.2.1, ())
     else
      bif decide (val.1.2.2.2.2.2.1 < w64 (val.1.2.2.2.2.2.2.1 - val.1.2.2.2.2.2.2.2.1)) then
       bif decide (w64 (val.1.2.2.2.2.2.2.1 - val.1.2.2.2.2.2.2.2.1) < val.1.2.2.2.1) then
        (sp_symREn (((), val.1.2.2.2.2.2.1, w64 (val.1.2.2.2.2.2.2.1 - val.1.2.2.2.2.2.2.2.1), val.1.2.2.2.1, (), ()), val.2.1, ())).bind fun val_1 =>
         some ((val.1.1, ()), val_1.2.1, ())
       else some ((val.1.1, ()), val.2.1, ())
      else some ((val.1.1, ()), val.2.1, ())
  else
   (sp_symEnL4 ((c0, a, m, b, (), w64 (sh64 (w64u (w64 (a + b))) 1), w64 (w64 (sh64 (w64u (w64 (a + b))) 1) + m), a, m, w64 (w64 (w64 (sh64 (w64u (w64 (a + b))) 1) + m) - 1), ()), d, ())).bind fun val =>
    bif decide (val.1.2.2.2.2.2.2.2.1 < val.1.2.2.1) then
     bif decide (val.1.2.2.1 < w64 (val.1.2.2.2.2.2.2.1 - val.1.2.2.2.2.2.2.2.1)) then
      (sp_rotEn (((), val.1.2.2.2.2.2.2.2.1, val.1.2.2.1, w64 (val.1.2.2.2.2.2.2.1 - val.1.2.2.2.2.2.2.2.1), (), ()), val.2.1, ())).bind fun val_1 =>
       bif decide (val.1.2.1 < val.1.2.2.2.2.2.2.2.1) then
        bif decide (val.1.2.2.2.2.2.2.2.1 < val.1.2.2.2.2.2.1) then
         (sp_symREn (((), val.1.2.1, val.1.2.2.2.2.2.2.2.1, val.1.2.2.2.2.2.1, (), ()), val_1.2.1, ())).bind fun val_2 =>
          bif decide (val.1.2.2.2.2.2.1 < w64 (val.1.2.2.2.2.2.2.1 - val.1.2.2.2.2.2.2.2.1)) then
           bif decide (w64 (val.1.2.2.2.2.2.2.1 - val.1.2.2.2.2.2.2.2.1) < val.1.2.2.2.1) then
            (sp_symREn (((), val.1.2.2.2.2.2.1, w64 (val.1.2.2.2.2.2.2.1 - val.1.2.2.2.2.2.2.2.1), val.1.2.2.2.1, (), ()), val_2.2.1, ())).bind fun val_3 =>
             some ((val.1.1, ()), val_3.2.1, ())
           else some ((val.1.1, ()), val_2.2.1, ())
          else some ((val.1.1, ()), val_2.2.1, ())
        else
         bif decide (val.1.2.2.2.2.2.1 < w64 (val.1.2.2.2.2.2.2.1 - val.1.2.2.2.2.2.2.2.1)) then
          bif decide (w64 (val.1.2.2.2.2.2.2.1 - val.1.2.2.2.2.2.2.2.1) < val.1.2.2.2.1) then
           (sp_symREn (((), val.1.2.2.2.2.2.1, w64 (val.1.2.2.2.2.2.2.1 - val.1.2.2.2.2.2.2.2.1), val.1.2.2.2.1, (), ()), val_1.2.1, ())).bind fun val_2 =>
            some ((val.1.1, ()), val_2.2.1, ())
          else some ((val.1.1, ()), val_1.2.1, ())
         else some ((val.1.1, ()), val_1.2.1, ())
       else
        bif decide (val.1.2.2.2.2.2.1 < w64 (val.1.2.2.2.2.2.2.1 - val.1.2.2.2.2.2.2.2.1)) then
         bif decide (w64 (val.1.2.2.2.2.2.2.1 - val.1.2.2.2.2.2.2.2.1) < val.1.2.2.2.1) then
          (sp_symREn (((), val.1.2.2.2.2.2.1, w64 (val.1.2.2.2.2.2.2.1 - val.1.2.2.2.2.2.2.2.1), val.1.2.2.2.1, (), ()), val_1.2.1, ())).bind fun val_2 =>
           some ((val.1.1, ()), val_2.2.1, ())
         else some ((val.1.1, ()), val_1.2.1, ())
        else some ((val.1.1, ()), val_1.2.1, ())
     else
      bif decide (val.1.2.1 < val.1.2.2.2.2.2.2.2.1) then
       bif decide (val.1.2.2.2.2.2.2.2.1 < val.1.2.2.2.2.2.1) then
        (sp_symREn (((), val.1.2.1, val.1.2.2.2.2.2.2.2.1, val.1.2.2.2.2.2.1, (), ()), val.2.1, ())).bind fun val_1 =>
         bif decide (val.1.2.2.2.2.2.1 < w64 (val.1.2.2.2.2.2.2.1 - val.1.2.2.2.2.2.2.2.1)) then
          bif decide (w64 (val.1.2.2.2.2.2.2.1 - val.1.2.2.2.2.2.2.2.1) < val.1.2.2.2.1) then
           (sp_symREn (((), val.1.2.2.2.2.2.1, w64 (val.1.2.2.2.2.2.2.1 - val.1.2.2.2.2.2.2.2.1), val.1.2.2.2.1, (), ()), val_1.2.1, ())).bind fun val_2 =>
            some ((val.1.1, ()), val_2.2.1, ())
          else some ((val.1.1, ()), val_1.2.1, ())
         else some ((val.1.1, ()), val_1.2.1, ())
       else
        bif decide (val.1.2.2.2.2.2.1 < w64 (val.1.2.2.2.2.2.2.1 - val.1.2.2.2.2.2.2.2.1)) then
         bif decide (w64 (val.1.2.2.2.2.2.2.1 - val.1.2.2.2.2.2.2.2.1) < val.1.2.2.2.1) then
          (sp_symREn (((), val.1.2.2.2.2.2.1, w64 (val.1.2.2.2.2.2.2.1 - val.1.2.2.2.2.2.2.2.1), val.1.2.2.2.1, (), ()), val.2.1, ())).bind fun val_1 =>
           some ((val.1.1, ()), val_1.2.1, ())
         else some ((val.1.1, ()), val.2.1, ())
        else some ((val.1.1, ()), val.2.1, ())
      else
       bif decide (val.1.2.2.2.2.2.1 < w64 (val.1.2.2.2.2.2.2.1 - val.1.2.2.2.2.2.2.2.1)) then
        bif decide (w64 (val.1.2.2.2.2.2.2.1 - val.1.2.2.2.2.2.2.2.1) < val.1.2.2.2.1) then
         (sp_symREn (((), val.1.2.2.2.2.2.1, w64 (val.1.2.2.2.2.2.2.1 - val.1.2.2.2.2.2.2.2.1), val.1.2.2.2.1, (), ()), val.2.1, ())).bind fun val_1 =>
          some ((val.1.1, ()), val_1.2.1, ())
        else some ((val.1.1, ()), val.2.1, ())
       else some ((val.1.1, ()), val.2.1, ())
    else
     bif decide (val.1.2.1 < val.1.2.2.2.2.2.2.2.1) then
      bif decide (val.1.2.2.2.2.2.2.2.1 < val.1.2.2.2.2.2.1) then
       (sp_symREn (((), val.1.2.1, val.1.2.2.2.2.2.2.2.1, val.1.2.2.2.2.2.1, (), ()), val.2.1, ())).bind fun val_1 =>
        bif decide (val.1.2.2.2.2.2.1 < w64 (val.1.2.2.2.2.2.2.1 - val.1.2.2.2.2.2.2.2.1)) then
         bif decide (w64 (val.1.2.2.2.2.2.2.1 - val.1.2.2.2.2.2.2.2.1) < val.1.2.2.2.1) then
          (sp_symREn (((), val.1.2.2.2.2.2.1, w64 (val.1.2.2.2.2.2.2.1 - val.1.2.2.2.2.2.2.2.1), val.1.2.2.2.1, (), ()), val_1.2.1, ())).bind fun val_2 =>
           some ((val.1.1, ()), val_2.2.1, ())
         else some ((val.1.1, ()), val_1.2.1, ())
        else some ((val.1.1, ()), val_1.2.1, ())
      else
       bif decide (val.1.2.2.2.2.2.1 < w64 (val.1.2.2.2.2.2.2.1 - val.1.2.2.2.2.2.2.2.1)) then
        bif decide (w64 (val.1.2.2.2.2.2.2.1 - val.1.2.2.2.2.2.2.2.1) < val.1.2.2.2.1) then
         (sp_symREn (((), val.1.2.2.2.2.2.1, w64 (val.1.2.2.2.2.2.2.1 - val.1.2.2.2.2.2.2.2.1), val.1.2.2.2.1, (), ()), val.2.1, ())).bind fun val_1 =>
          some ((val.1.1, ()), val_1.2.1, ())
        else some ((val.1.1, ()), val.2.1, ())
       else some ((val.1.1, ()), val.2.1, ())
     else
      bif decide (val.1.2.2.2.2.2.1 < w64 (val.1.2.2.2.2.2.2.1 - val.1.2.2.2.2.2.2.2.1)) then
       bif decide (w64 (val.1.2.2.2.2.2.2.1 - val.1.2.2.2.2.2.2.2.1) < val.1.2.2.2.1) then
        (sp_symREn (((), val.1.2.2.2.2.2.1, w64 (val.1.2.2.2.2.2.2.1 - val.1.2.2.2.2.2.2.2.1), val.1.2.2.2.1, (), ()), val.2.1, ())).bind fun val_1 =>
         some ((val.1.1, ()), val_1.2.1, ())
       else some ((val.1.1, ()), val.2.1, ())
      else some ((val.1.1, ()), val.2.1, ())) := by kernel_rfl
theorem symEn_ok {rec : List En → Int → Int → Int → T (List En)} (symREn_ok : Sound Tryz.prog gl 124 (Con.fx [vi, vi, vi, .clo 98 []] cdw2q0 [] cdw2q0 (PIf.spec (symREnI rec)))) : Sound Tryz.prog gl 124 (symEn_C (PIf.spec (symEnI rec))) := by
 refine cxk (I := (symEnCI rec)) (J := (symEnI rec)) (fn := Tryz.f124) (G := [(98, cmpEn_C cmpEnS), (130, rotEn_C rotEnS), (124, Con.fx [vi, vi, vi, .clo 98 []] cdw2q0 [] cdw2q0 (PIf.spec (symREnI rec)))]) (cmpEn_k (rotEn_k (GOk.cons ⟨Tryz.f124, body Tryz.f124, by kernel_rfl, by kernel_rfl, by kernel_rfl⟩ symREn_ok (GOk.nil)))) (by kernel_rfl) (by kernel_rfl) (Lc := [(3, symEnL0Q (PIf.spec symEnL0I)), (9, symEnL1Q (PIf.spec symEnL1I)), (15, symEnL2Q (PIf.spec symEnL2I)), (21, symEnL3Q (PIf.spec symEnL3I)), (33, symEnL4Q (PIf.spec symEnL4I))]) (nh := []) (lcok (bs := [getL (body Tryz.f124) 0, getL (body Tryz.f124) 1, getL (body Tryz.f124) 2, getL (body Tryz.f124) 3, getL (body Tryz.f124) 4]) (by kernel_rfl) ⟨lone_ok (q := (3, symEnL0Q (PIf.spec symEnL0I))) (by kernel_rfl) (symEnL0_ok symREn_ok), lone_ok (q := (9, symEnL1Q (PIf.spec symEnL1I))) (by kernel_rfl) (symEnL1_ok symREn_ok), lone_ok (q := (15, symEnL2Q (PIf.spec symEnL2I))) (by kernel_rfl) (symEnL2_ok symREn_ok), lone_ok (q := (21, symEnL3Q (PIf.spec symEnL3I))) (by kernel_rfl) (symEnL3_ok symREn_ok), lone_ok (q := (33, symEnL4Q (PIf.spec symEnL4I))) (by kernel_rfl) (symEnL4_ok symREn_ok), trivial⟩) ?_ (fun c0 x o y h => by obtain ⟨a, h1, rfl⟩ := Option.map_eq_some_iff.1 h; exact Option.map_eq_some_iff.2 ⟨a, h1, rfl⟩)
 rintro ⟨⟨c0, a, m, b, _, _⟩, ⟨d, _⟩⟩
 refine (symEn_raw ..).trans ?_
 show _ = (((symEnTr rec) a m b d).val).map ((symEnCI rec).enc ((c0, a, m, b, (), ()), (d, ())))
 unfold symEnTr
 repeat' (first|refine cond_outP (fun _ =>?_) (fun _ =>?_)|(refine bindP (fun _ =>?_); try dsimp only [selim, cond_true, cond_false, Bool.not_true, Bool.not_false, one, mI, cmpEnI, rotEnI, symREnI, symEnL0I, symEnL1I, symEnL2I, symEnL3I, symEnL4I]) | rfl)
def symKEn : Nat → List En → Int → Int → Int → T (List En)
 | 0 => fun _ _ _ _ => .bot
 | k + 1 => fun d a m b => symEnTr (symKEn k) a m b d
theorem symKEn_ok : ∀ k, Sound Tryz.prog gl 124 (Con.fx [vi, vi, vi, .clo 98 []] cdw2q0 [] cdw2q0 (PIf.spec (symREnI (symKEn k))))
 | 0 => fun _ _ _ _ _ hy => by cases hy
 | k + 1 => symEn_ok (symKEn_ok k)
def sortMEn : List En → Int → Int → Int → T (List En) := symKEn FU
@[reducible] def symMEnI : PIf (VhL [.s (.own 0), vi, vi, vi, .clo 98 []] × OShL cdw2q0) (VhL [] × OShL cdw2q0) where
 α := List En
 tr x := sortMEn x.2.1 x.1.2.1 x.1.2.2.1 x.1.2.2.2.1
 enc x a := ((), (a, ()))
theorem symMEn_ok : Sound Tryz.prog gl 124 (Con.fx [vi, vi, vi, .clo 98 []] cdw2q0 [] cdw2q0 (PIf.spec symMEnI)) := symKEn_ok FU
abbrev cdw3q0 : List OSh := [.arr (.st .en)]
abbrev stabVEnL2vs : List Vh := [.s (.ownC 0), vi, .clo 98 [], vi, vi, vi]
abbrev stabVEnL2os : List OSh := cdw3q0
noncomputable abbrev stabVEnL2fin : Fin := (Fin.one 1 Tryz.f117.ntmps (.exit 4) [0, 1, 2, 6, 7] [.s (.ownC 0), vi, .clo 98 [], vi, vi] cdw3q0)
noncomputable abbrev stabVEnL2Q (sp : VhL stabVEnL2vs × OShL stabVEnL2os → Option stabVEnL2fin.Y) : LCon := LCon.of Tryz.f117.ntmps [0, 1, 2, 6, 7, 8] stabVEnL2vs stabVEnL2os stabVEnL2fin sp
def stabVEnL2Step (v1 v2 : Int) (st : Int × Int × List En) : T ((Int × Int × List En) ⊕ (Int × List En)) :=
 let v3 := st.1
 let v4 := st.2.1
 let d := st.2.2
 bif decide (v4 ≤ v1) then
 (sortMEn d v3 (w64 (v3 + v2)) v4).bind fun x0 =>
 .ret (Sum.inl (v4, w64 (v4 + w64 (2 * v2)), x0))
 else
 .ret (Sum.inr (v3, d))
@[reducible] def stabVEnL2I : PIf (VhL stabVEnL2vs × OShL stabVEnL2os) stabVEnL2fin.Y where
 α := Int × List En
 tr x := T.loop (stabVEnL2Step x.1.2.1 x.1.2.2.2.1) FU (x.1.2.2.2.2.1, x.1.2.2.2.2.2.1, x.2.1)
 enc x a := ((x.1.1, x.1.2.1, (), x.1.2.2.2.1, a.1, ()), (a.2, ()))
theorem stabVEnL2_raw (p0 : cmpEn_T) (p1 : insEn_T) (p2 : VhL [.s (.own 0), vi, vi, vi, .clo 98 []] × OShL cdw3q0 → Option (VhL [] × OShL cdw3q0)) (v0 : Value) (v1 v2 v3 v4 : Int) (d : List En) : runW 1 Tryz.f117 2 [0, 1, 2, 6, 7, 8] stabVEnL2vs stabVEnL2os stabVEnL2fin [(98, cmpEn_C p0), (123, insEn_C p1), (124, Con.fx [vi, vi, vi, .clo 98 []] cdw3q0 [] cdw3q0 p2)] [] [] (((v0, v1, (), v2, v3, v4, ()), (d, ())) : VhL stabVEnL2vs × OShL stabVEnL2os) = (bif decide (v4 ≤ v1) then (p2 (((), v3, w64 (v3 + v2), v4, (), ()), d, ())).bind fun z => some (Sum.inl ((v0, v1, (), v2, v4, w64 (v4 + w64 (2 * v2)), ()), z.2.1, ())) else some (Sum.inr ((v0, v1, (), v2, v3, ()), d, ()))) := by kernel_rfl
theorem stabVEnL2_ok : LOk Tryz.prog gl 1 (stabVEnL2Q (PIf.spec stabVEnL2I)) (getL (body Tryz.f117) 2) := by
 refine lwk (Lc := []) (nh := []) (G := [(98, cmpEn_C cmpEnS), (123, insEn_C insEnS), (124, Con.fx [vi, vi, vi, .clo 98 []] cdw3q0 [] cdw3q0 (PIf.spec symMEnI))]) (cmpEn_k (insEn_k (GOk.cons ⟨Tryz.f124, body Tryz.f124, by kernel_rfl, by kernel_rfl, by kernel_rfl⟩ symMEn_ok (GOk.nil)))) (noloopN (by kernel_rfl)) (Fin.one_ok _ _ _ _) ?_
 rintro ⟨⟨v0, v1, _, v2, v3, v4, _⟩, ⟨d, _⟩⟩ y hy
 refine ⟨_, loopP_ok (eX := fun (st : Int × Int × List En) => (let v3 := st.1; let v4 := st.2.1; let d := st.2.2; ((v0, v1, (), v2, v3, v4, ()), (d, ())) : VhL stabVEnL2vs × OShL stabVEnL2os)) (body := stabVEnL2Step v1 v2) (fun st =>?_) _ (v3, v4, d) y hy⟩
 obtain ⟨v3, v4, d⟩ := st
 refine (stabVEnL2_raw ..).trans ?_
 unfold stabVEnL2Step
 repeat' (first|refine cond_outP (fun _ =>?_) (fun _ =>?_)|(refine bindP (fun _ =>?_); try dsimp only [selim, cond_true, cond_false, Bool.not_true, Bool.not_false, one, mI, cmpEnI, insEnI, symMEnI]) | rfl)
abbrev stabVEnL1vs : List Vh := [.s (.ownC 0), vi, .clo 98 [], vi]
abbrev stabVEnL1os : List OSh := cdw3q0
noncomputable abbrev stabVEnL1fin : Fin := (Fin.one 1 Tryz.f117.ntmps (.exit 2) [0] [.s (.ownC 0)] cdw3q0)
noncomputable abbrev stabVEnL1Q (sp : VhL stabVEnL1vs × OShL stabVEnL1os → Option stabVEnL1fin.Y) : LCon := LCon.of Tryz.f117.ntmps [0, 1, 2, 6] stabVEnL1vs stabVEnL1os stabVEnL1fin sp
def stabVEnL1Step (v1 : Int) (st : Int × List En) : T ((Int × List En) ⊕ (List En)) :=
 let v2 := st.1
 let d := st.2
 bif decide (v2 < v1) then
 (T.loop (stabVEnL2Step v1 v2) 4611686018427387904 (0, w64 (2 * v2), d)).bind fun x0 =>
 bif decide (w64 (x0.1 + v2) < v1) then
 (sortMEn x0.2 x0.1 (w64 (x0.1 + v2)) v1).bind fun x1 =>
 .ret (Sum.inl (w64 (v2 * 2), x1))
 else
 .ret (Sum.inl (w64 (v2 * 2), x0.2))
 else
 .ret (Sum.inr d)
@[reducible] def stabVEnL1I : PIf (VhL stabVEnL1vs × OShL stabVEnL1os) stabVEnL1fin.Y where
 α := List En
 tr x := T.loop (stabVEnL1Step x.1.2.1) FU (x.1.2.2.2.1, x.2.1)
 enc x a := ((x.1.1, ()), (a, ()))
theorem stabVEnL1_raw (sp_cmpEn : cmpEn_T) (sp_insEn : insEn_T) (sp_symMEn : VhL [.s (.own 0), vi, vi, vi, .clo 98 []] × OShL cdw3q0 → Option (VhL [] × OShL cdw3q0)) (sp_stabVEnL2 : VhL stabVEnL2vs × OShL stabVEnL2os → Option stabVEnL2fin.Y) (v0 : Value) (v1 v2 : Int) (d : List En) : runW 1 Tryz.f117 1 [0, 1, 2, 6] stabVEnL1vs stabVEnL1os stabVEnL1fin [(98, cmpEn_C sp_cmpEn), (123, insEn_C sp_insEn), (124, Con.fx [vi, vi, vi, .clo 98 []] cdw3q0 [] cdw3q0 sp_symMEn)] [(9, stabVEnL2Q sp_stabVEnL2)] [] (((v0, v1, (), v2, ()), (d, ())) : VhL stabVEnL1vs × OShL stabVEnL1os) = (bif decide (v2 < v1) then (sp_stabVEnL2 ((v0, v1, (), v2, 0, w64 (2 * v2), ()), d, ())).bind fun val => bif decide (w64 (val.1.2.2.2.2.1 + val.1.2.2.2.1) < val.1.2.1) then (sp_symMEn (((), val.1.2.2.2.2.1, w64 (val.1.2.2.2.2.1 + val.1.2.2.2.1), val.1.2.1, (), ()), val.2.1, ())).bind fun val_1 => some (Sum.inl ((val.1.1, val.1.2.1, (), w64 (val.1.2.2.2.1 * 2), ()), val_1.2.1, ())) else some (Sum.inl ((val.1.1, val.1.2.1, (), w64 (val.1.2.2.2.1 * 2), ()), val.2.1, ()))
else some (Sum.inr ((v0, ()), d, ()))) := by kernel_rfl
theorem stabVEnL1_ok : LOk Tryz.prog gl 1 (stabVEnL1Q (PIf.spec stabVEnL1I)) (getL (body Tryz.f117) 1) := by
 refine lwk (Lc := [(9, stabVEnL2Q (PIf.spec stabVEnL2I))]) (nh := []) (G := [(98, cmpEn_C cmpEnS), (123, insEn_C insEnS), (124, Con.fx [vi, vi, vi, .clo 98 []] cdw3q0 [] cdw3q0 (PIf.spec symMEnI))]) (cmpEn_k (insEn_k (GOk.cons ⟨Tryz.f124, body Tryz.f124, by kernel_rfl, by kernel_rfl, by kernel_rfl⟩ symMEn_ok (GOk.nil)))) (lcok (bs := [getL (body Tryz.f117) 2]) (by kernel_rfl) ⟨lone_ok (q := (9, stabVEnL2Q (PIf.spec stabVEnL2I))) (by kernel_rfl) stabVEnL2_ok, trivial⟩) (Fin.one_ok _ _ _ _) ?_
 rintro ⟨⟨v0, v1, _, v2, _⟩, ⟨d, _⟩⟩ y hy
 refine ⟨_, loopP_ok (eX := fun (st : Int × List En) => (let v2 := st.1; let d := st.2; ((v0, v1, (), v2, ()), (d, ())) : VhL stabVEnL1vs × OShL stabVEnL1os)) (body := stabVEnL1Step v1) (fun st =>?_) _ (v2, d) y hy⟩
 obtain ⟨v2, d⟩ := st
 refine (stabVEnL1_raw ..).trans ?_
 unfold stabVEnL1Step
 repeat' (first|refine cond_outP (fun _ =>?_) (fun _ =>?_)|(refine bindP (fun _ =>?_); try dsimp only [selim, cond_true, cond_false, Bool.not_true, Bool.not_false, one, mI, cmpEnI, insEnI, symMEnI, stabVEnL2I]) | rfl)
abbrev stabVEnL0vs : List Vh := [.s (.ownC 0), vi, .clo 98 [], vi, vi, vi]
abbrev stabVEnL0os : List OSh := cdw3q0
noncomputable abbrev stabVEnL0fin : Fin := (Fin.one 1 Tryz.f117.ntmps (.exit 0) [0, 1, 2, 6, 7] [.s (.ownC 0), vi, .clo 98 [], vi, vi] cdw3q0)
noncomputable abbrev stabVEnL0Q (sp : VhL stabVEnL0vs × OShL stabVEnL0os → Option stabVEnL0fin.Y) : LCon := LCon.of Tryz.f117.ntmps [0, 1, 2, 6, 7, 8] stabVEnL0vs stabVEnL0os stabVEnL0fin sp
def stabVEnL0Step (v1 v2 : Int) (st : Int × Int × List En) : T ((Int × Int × List En) ⊕ (Int × List En)) :=
 let v3 := st.1
 let v4 := st.2.1
 let d := st.2.2
 bif decide (v4 ≤ v1) then
 (insEnTr v3 v4 d).bind fun x0 =>
 .ret (Sum.inl (v4, w64 (v4 + v2), x0))
 else
 .ret (Sum.inr (v3, d))
@[reducible] def stabVEnL0I : PIf (VhL stabVEnL0vs × OShL stabVEnL0os) stabVEnL0fin.Y where
 α := Int × List En
 tr x := T.loop (stabVEnL0Step x.1.2.1 x.1.2.2.2.1) FU (x.1.2.2.2.2.1, x.1.2.2.2.2.2.1, x.2.1)
 enc x a := ((x.1.1, x.1.2.1, (), x.1.2.2.2.1, a.1, ()), (a.2, ()))
theorem stabVEnL0_raw (p0 : cmpEn_T) (p1 : insEn_T) (p2 : VhL [.s (.own 0), vi, vi, vi, .clo 98 []] × OShL cdw3q0 → Option (VhL [] × OShL cdw3q0)) (v0 : Value) (v1 v2 v3 v4 : Int) (d : List En) : runW 1 Tryz.f117 0 [0, 1, 2, 6, 7, 8] stabVEnL0vs stabVEnL0os stabVEnL0fin [(98, cmpEn_C p0), (123, insEn_C p1), (124, Con.fx [vi, vi, vi, .clo 98 []] cdw3q0 [] cdw3q0 p2)] [] [] (((v0, v1, (), v2, v3, v4, ()), (d, ())) : VhL stabVEnL0vs × OShL stabVEnL0os) = (bif decide (v4 ≤ v1) then (p1 (((), v3, v4, (), ()), d, ())).bind fun z => some (Sum.inl ((v0, v1, (), v2, v4, w64 (v4 + v2), ()), z.2.1, ())) else some (Sum.inr ((v0, v1, (), v2, v3, ()), d, ()))) := by kernel_rfl
theorem stabVEnL0_ok : LOk Tryz.prog gl 1 (stabVEnL0Q (PIf.spec stabVEnL0I)) (getL (body Tryz.f117) 0) := by
 refine lwk (Lc := []) (nh := []) (G := [(98, cmpEn_C cmpEnS), (123, insEn_C insEnS), (124, Con.fx [vi, vi, vi, .clo 98 []] cdw3q0 [] cdw3q0 (PIf.spec symMEnI))]) (cmpEn_k (insEn_k (GOk.cons ⟨Tryz.f124, body Tryz.f124, by kernel_rfl, by kernel_rfl, by kernel_rfl⟩ symMEn_ok (GOk.nil)))) (noloopN (by kernel_rfl)) (Fin.one_ok _ _ _ _) ?_
 rintro ⟨⟨v0, v1, _, v2, v3, v4, _⟩, ⟨d, _⟩⟩ y hy
 refine ⟨_, loopP_ok (eX := fun (st : Int × Int × List En) => (let v3 := st.1; let v4 := st.2.1; let d := st.2.2; ((v0, v1, (), v2, v3, v4, ()), (d, ())) : VhL stabVEnL0vs × OShL stabVEnL0os)) (body := stabVEnL0Step v1 v2) (fun st =>?_) _ (v3, v4, d) y hy⟩
 obtain ⟨v3, v4, d⟩ := st
 refine (stabVEnL0_raw ..).trans ?_
 unfold stabVEnL0Step
 repeat' (first|refine cond_outP (fun _ =>?_) (fun _ =>?_)|(refine bindP (fun _ =>?_); try dsimp only [selim, cond_true, cond_false, Bool.not_true, Bool.not_false, one, mI, cmpEnI, insEnI, symMEnI]) | rfl)
def stabVEnTr (n : Int) (d : List En) : T (List En) :=
 (T.loop (stabVEnL0Step n 20) 4611686018427387904 (0, 20, d)).bind fun x0 =>
 (insEnTr x0.1 n x0.2).bind fun x1 =>
 (T.loop (stabVEnL1Step n) 4611686018427387904 (20, x1)).bind fun x2 =>
 .ret x2
@[reducible] def stabVEnCI : PIf (VhL [.s (.ownC 0), vi, .clo 98 []] × OShL cdw3q0) (VhL [.s (.ownC 0)] × OShL cdw3q0) where
 α := List En
 tr x := stabVEnTr x.1.2.1 x.2.1
 enc x a := ((x.1.1, ()), (a, ()))
@[reducible] def stabVEnI : PIf (VhL [.s (.own 0), vi, .clo 98 []] × OShL cdw3q0) (VhL [] × OShL cdw3q0) where
 α := List En
 tr x := stabVEnTr x.1.2.1 x.2.1
 enc x a := ((), (a, ()))
abbrev stabVEn_T : Type := VhL [.s (.own 0), vi, .clo 98 []] × OShL cdw3q0 → Option (VhL [] × OShL cdw3q0)
noncomputable abbrev stabVEn_C (sp : stabVEn_T) : Con := Con.fx [vi, .clo 98 []] cdw3q0 [] cdw3q0 sp
noncomputable abbrev stabVEnS : stabVEn_T := PIf.spec stabVEnI
theorem stabVEn_raw (p0 : cmpEn_T) (p1 : insEn_T) (p2 : VhL [.s (.own 0), vi, vi, vi, .clo 98 []] × OShL cdw3q0 → Option (VhL [] × OShL cdw3q0)) (p3 : VhL stabVEnL0vs × OShL stabVEnL0os → Option stabVEnL0fin.Y) (p4 : VhL stabVEnL2vs × OShL stabVEnL2os → Option stabVEnL2fin.Y) (p5 : VhL stabVEnL1vs × OShL stabVEnL1os → Option stabVEnL1fin.Y) (c0 : Value) (n : Int) (d : List En) : runX Tryz.f117 [vi, .clo 98 []] cdw3q0 [] cdw3q0 [(98, cmpEn_C p0), (123, insEn_C p1), (124, Con.fx [vi, vi, vi, .clo 98 []] cdw3q0 [] cdw3q0 p2)] [(2, stabVEnL0Q p3), (9, stabVEnL2Q p4), (7, stabVEnL1Q p5)] [] (((c0, n, (), ()), (d, ())) : VhL [.s (.ownC 0), vi, .clo 98 []] × OShL cdw3q0) = ((p3 ((c0, n, (), 20, 0, 20, ()), d, ())).bind fun z => (p1 (((), z.1.2.2.2.2.1, z.1.2.1, (), ()), z.2.1, ())).bind fun z1 => (p5 ((z.1.1, z.1.2.1, (), z.1.2.2.2.1, ()), z1.2.1, ())).bind fun z => some ((z.1.1, ()), z.2.1, ())) := by kernel_rfl
theorem stabVEn_ok : Sound Tryz.prog gl 117 (stabVEn_C stabVEnS) := by
 refine cxk (I := stabVEnCI) (J := stabVEnI) (fn := Tryz.f117) (G := [(98, cmpEn_C cmpEnS), (123, insEn_C insEnS), (124, Con.fx [vi, vi, vi, .clo 98 []] cdw3q0 [] cdw3q0 (PIf.spec symMEnI))]) (cmpEn_k (insEn_k (GOk.cons ⟨Tryz.f124, body Tryz.f124, by kernel_rfl, by kernel_rfl, by kernel_rfl⟩ symMEn_ok (GOk.nil)))) (by kernel_rfl) (by kernel_rfl) (Lc := [(2, stabVEnL0Q (PIf.spec stabVEnL0I)), (9, stabVEnL2Q (PIf.spec stabVEnL2I)), (7, stabVEnL1Q (PIf.spec stabVEnL1I))]) (nh := []) (lcok (bs := [getL (body Tryz.f117) 0, getL (body Tryz.f117) 1, getL (body Tryz.f117) 2]) (by kernel_rfl) ⟨lone_ok (q := (2, stabVEnL0Q (PIf.spec stabVEnL0I))) (by kernel_rfl) stabVEnL0_ok, lone_ok (q := (7, stabVEnL1Q (PIf.spec stabVEnL1I))) (by kernel_rfl) stabVEnL1_ok, lone_ok (q := (9, stabVEnL2Q (PIf.spec stabVEnL2I))) (by kernel_rfl) stabVEnL2_ok, trivial⟩) ?_ (fun c0 x o y h => by obtain ⟨a, h1, rfl⟩ := Option.map_eq_some_iff.1 h; exact Option.map_eq_some_iff.2 ⟨a, h1, rfl⟩)
 rintro ⟨⟨c0, n, _, _⟩, ⟨d, _⟩⟩
 refine (stabVEn_raw ..).trans ?_
 show _ = ((stabVEnTr n d).val).map _
 unfold stabVEnTr
 repeat' (first|(refine bindP (fun _ =>?_); try dsimp only [selim, cond_true, cond_false, Bool.not_true, Bool.not_false, one, mI, cmpEnI, insEnI, symMEnI, stabVEnL0I, stabVEnL2I, stabVEnL1I]) | rfl)
theorem stabVEn_k {G : List (Nat × Con)} (h : GOk Tryz.prog gl G) : GOk Tryz.prog gl ((117, stabVEn_C stabVEnS) :: G) := GOk.cons ⟨Tryz.f117, body Tryz.f117, by kernel_rfl, by kernel_rfl, by kernel_rfl⟩ stabVEn_ok h
def stabWEnTr (d : List En) : T (List En) :=
 (stabVEnTr (Int.ofNat d.length) d).bind fun x0 =>
 .ret x0
@[reducible] def stabWEnCI : PIf (VhL [.s (.ownC 0), .clo 98 []] × OShL cdw3q0) (VhL [.s (.ownC 0)] × OShL cdw3q0) where
 α := List En
 tr x := stabWEnTr x.2.1
 enc x a := ((x.1.1, ()), (a, ()))
@[reducible] def stabWEnI : PIf (VhL [.s (.own 0), .clo 98 []] × OShL cdw3q0) (VhL [] × OShL cdw3q0) where
 α := List En
 tr x := stabWEnTr x.2.1
 enc x a := ((), (a, ()))
abbrev stabWEn_T : Type := VhL [.s (.own 0), .clo 98 []] × OShL cdw3q0 → Option (VhL [] × OShL cdw3q0)
noncomputable abbrev stabWEn_C (sp : stabWEn_T) : Con := Con.fx [.clo 98 []] cdw3q0 [] cdw3q0 sp
noncomputable abbrev stabWEnS : stabWEn_T := PIf.spec stabWEnI
theorem stabWEn_raw (p0 : cmpEn_T) (p1 : stabVEn_T) (c0 : Value) (d : List En) : runX Tryz.f97 [.clo 98 []] cdw3q0 [] cdw3q0 [(98, cmpEn_C p0), (117, stabVEn_C p1)] [] [] (((c0, (), ()), (d, ())) : VhL [.s (.ownC 0), .clo 98 []] × OShL cdw3q0) = ((p1 (((), Int.ofNat d.length, (), ()), d, ())).bind fun z => some ((c0, ()), z.2.1, ())) := by kernel_rfl
theorem stabWEn_ok : Sound Tryz.prog gl 97 (stabWEn_C stabWEnS) := by
 refine cxk (I := stabWEnCI) (J := stabWEnI) (fn := Tryz.f97) (G := [(98, cmpEn_C cmpEnS), (117, stabVEn_C stabVEnS)]) (cmpEn_k (stabVEn_k (GOk.nil))) (by kernel_rfl) (by kernel_rfl) (Lc := []) (nh := []) (noloopN (by kernel_rfl)) ?_ (fun c0 x o y h => by obtain ⟨a, h1, rfl⟩ := Option.map_eq_some_iff.1 h; exact Option.map_eq_some_iff.2 ⟨a, h1, rfl⟩)
 rintro ⟨⟨c0, _, _⟩, ⟨d, _⟩⟩
 refine (stabWEn_raw ..).trans ?_
 show _ = ((stabWEnTr d).val).map _
 unfold stabWEnTr
 repeat' (first|(refine bindP (fun _ =>?_); try dsimp only [selim, cond_true, cond_false, Bool.not_true, Bool.not_false, one, mI, cmpEnI, stabVEnI]) | rfl)
end Go.Ax.Cd
