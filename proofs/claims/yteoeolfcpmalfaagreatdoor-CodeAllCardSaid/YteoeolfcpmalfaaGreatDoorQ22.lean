/- Merged. -/
import Derived.Test.YteoeolfcpmalfaaGreatDoorQ21
namespace Go.Ax.Cd
open Go.Proofs
set_option linter.unusedVariables false
set_option maxRecDepth 100000
abbrev cdv2q0 : List OSh := [.arr (.st .pr)]
@[reducible] def symRPrI (rec : List Pr → Int → Int → Int → T (List Pr)) : PIf (VhL [.s (.own 0), vi, vi, vi, .clo 93 []] × OShL cdv2q0) (VhL [] × OShL cdv2q0) where
 α := List Pr
 tr x := rec x.2.1 x.1.2.1 x.1.2.2.1 x.1.2.2.2.1
 enc x a := ((), (a, ()))
abbrev symPrL4vs : List Vh := [.s (.ownC 0), vi, vi, vi, .clo 93 [], vi, vi, vi, vi, vi]
abbrev symPrL4os : List OSh := cdv2q0
noncomputable abbrev symPrL4fin : Fin := (Fin.one 1 Tryz.f122.ntmps (.exit 8) [0, 1, 2, 3, 4, 18, 19, 20] [.s (.ownC 0), vi, vi, vi, .clo 93 [], vi, vi, vi] cdv2q0)
noncomputable abbrev symPrL4Q (sp : VhL symPrL4vs × OShL symPrL4os → Option symPrL4fin.Y) : LCon := LCon.of Tryz.f122.ntmps [0, 1, 2, 3, 4, 18, 19, 20, 21, 22] symPrL4vs symPrL4os symPrL4fin sp
def symPrL4Step (v1 v2 v3 v4 v5 v8 : Int) (d : List Pr) (st : Int × Int) : T ((Int × Int) ⊕ (Int)) :=
 let v6 := st.1
 let v7 := st.2
 bif decide (v6 < v7) then
 bif inR (w64 (v8 - w64 (sh64 (w64u (w64 (v6 + v7))) 1))) d.length then
 bif inR (w64 (sh64 (w64u (w64 (v6 + v7))) 1)) d.length then
 (cmpPrTr (rdE (EK.st SN.pr) d (w64 (v8 - w64 (sh64 (w64u (w64 (v6 + v7))) 1)))) (rdE (EK.st SN.pr) d (w64 (sh64 (w64u (w64 (v6 + v7))) 1)))).bind fun x0 =>
 bif !decide (x0 < 0) then
 .ret (Sum.inl (w64 (w64 (sh64 (w64u (w64 (v6 + v7))) 1) + 1), v7))
 else
 .ret (Sum.inl (v6, w64 (sh64 (w64u (w64 (v6 + v7))) 1)))
 else
 .bot
 else
 .bot
 else
 .ret (Sum.inr v6)
@[reducible] def symPrL4I : PIf (VhL symPrL4vs × OShL symPrL4os) symPrL4fin.Y where
 α := Int
 tr x := T.loop (symPrL4Step x.1.2.1 x.1.2.2.1 x.1.2.2.2.1 x.1.2.2.2.2.2.1 x.1.2.2.2.2.2.2.1 x.1.2.2.2.2.2.2.2.2.2.1 x.2.1) FU (x.1.2.2.2.2.2.2.2.1, x.1.2.2.2.2.2.2.2.2.1)
 enc x a := ((x.1.1, x.1.2.1, x.1.2.2.1, x.1.2.2.2.1, (), x.1.2.2.2.2.2.1, x.1.2.2.2.2.2.2.1, a, ()), (x.2.1, ()))
theorem symPrL4_raw (sp_cmpPr : cmpPr_T) (sp_rotPr : rotPr_T) (sp_symRPr : VhL [.s (.own 0), vi, vi, vi, .clo 93 []] × OShL cdv2q0 → Option (VhL [] × OShL cdv2q0)) (v0 : Value) (v1 v2 v3 v4 v5 v6 v7 v8 : Int) (d : List Pr) : runW 1 Tryz.f122 4 [0, 1, 2, 3, 4, 18, 19, 20, 21, 22] symPrL4vs symPrL4os symPrL4fin [(93, cmpPr_C sp_cmpPr), (129, rotPr_C sp_rotPr), (122, Con.fx [vi, vi, vi, .clo 93 []] cdv2q0 [] cdv2q0 sp_symRPr)] [] [] (((v0, v1, v2, v3, (), v4, v5, v6, v7, v8, ()), (d, ())) : VhL symPrL4vs × OShL symPrL4os) = (bif decide (v6 < v7) then bif inR (w64 (v8 - w64 (sh64 (w64u (w64 (v6 + v7))) 1))) d.length then bif inR (w64 (sh64 (w64u (w64 (v6 + v7))) 1)) d.length then (sp_cmpPr ((rdE (EK.st SN.pr) d (w64 (v8 - w64 (sh64 (w64u (w64 (v6 + v7))) 1))), rdE (EK.st SN.pr) d (w64 (sh64 (w64u (w64 (v6 + v7))) 1)), ()), ())).bind fun val => bif !decide (val.1.1 < 0) then some (Sum.inl ((v0, v1, v2, v3, (), v4, v5, w64 (w64 (sh64 (w64u (w64 (v6 + v7))) 1) + 1), v7, v8, ()), d, ())) else some (Sum.inl ((v0, v1, v2, v3, (), v4, v5, v6, w64 (sh64 (w64u (w64 (v6 + v7))) 1), v8, ()), d, ())) else none else none
else some (Sum.inr ((v0, v1, v2, v3, (), v4, v5, v6, ()), d, ()))) := by kernel_rfl
theorem symPrL4_ok {rec : List Pr → Int → Int → Int → T (List Pr)} (symRPr_ok : Sound Tryz.prog gl 122 (Con.fx [vi, vi, vi, .clo 93 []] cdv2q0 [] cdv2q0 (PIf.spec (symRPrI rec)))) : LOk Tryz.prog gl 1 (symPrL4Q (PIf.spec symPrL4I)) (getL (body Tryz.f122) 4) := by
 refine lwk (Lc := []) (nh := []) (G := [(93, cmpPr_C cmpPrS), (129, rotPr_C rotPrS), (122, Con.fx [vi, vi, vi, .clo 93 []] cdv2q0 [] cdv2q0 (PIf.spec (symRPrI rec)))]) (cmpPr_k (rotPr_k (GOk.cons ⟨Tryz.f122, body Tryz.f122, by kernel_rfl, by kernel_rfl, by kernel_rfl⟩ symRPr_ok (GOk.nil)))) (noloopN (by kernel_rfl)) (Fin.one_ok _ _ _ _) ?_
 rintro ⟨⟨v0, v1, v2, v3, _, v4, v5, v6, v7, v8, _⟩, ⟨d, _⟩⟩ y hy
 refine ⟨_, loopP_ok (eX := fun (st : Int × Int) => (let v6 := st.1; let v7 := st.2; ((v0, v1, v2, v3, (), v4, v5, v6, v7, v8, ()), (d, ())) : VhL symPrL4vs × OShL symPrL4os)) (body := symPrL4Step v1 v2 v3 v4 v5 v8 d) (fun st =>?_) _ (v6, v7) y hy⟩
 obtain ⟨v6, v7⟩ := st
 refine (symPrL4_raw ..).trans ?_
 unfold symPrL4Step
 repeat' (first|refine cond_outP (fun _ =>?_) (fun _ =>?_)|(refine bindP (fun _ =>?_); try dsimp only [selim, cond_true, cond_false, Bool.not_true, Bool.not_false, one, mI, cmpPrI, rotPrI, symRPrI]) | rfl)
abbrev symPrL3vs : List Vh := [.s (.ownC 0), vi, vi]
abbrev symPrL3os : List OSh := cdv2q0
noncomputable abbrev symPrL3fin : Fin := (Fin.one 1 Tryz.f122.ntmps (.exit 6) [0] [.s (.ownC 0)] cdv2q0)
noncomputable abbrev symPrL3Q (sp : VhL symPrL3vs × OShL symPrL3os → Option symPrL3fin.Y) : LCon := LCon.of Tryz.f122.ntmps [0, 14, 17] symPrL3vs symPrL3os symPrL3fin sp
def symPrL3Step (v1 : Int) (st : Int × List Pr) : T ((Int × List Pr) ⊕ (List Pr)) :=
 let v2 := st.1
 let d := st.2
 bif decide (v2 > v1) then
 bif inR (w64 (v2 - 1)) d.length then
 bif inR v2 d.length then
 bif inR v2 d.length then
 bif inR (w64 (v2 - 1)) (wrE (EK.st SN.pr) d v2 (rdE (EK.st SN.pr) d (w64 (v2 - 1)))).length then
 .ret (Sum.inl (w64 (v2 - 1), wrE (EK.st SN.pr) (wrE (EK.st SN.pr) d v2 (rdE (EK.st SN.pr) d (w64 (v2 - 1)))) (w64 (v2 - 1)) (rdE (EK.st SN.pr) d v2)))
 else
 .bot
 else
 .bot
 else
 .bot
 else
 .bot
 else
 .ret (Sum.inr d)
@[reducible] def symPrL3I : PIf (VhL symPrL3vs × OShL symPrL3os) symPrL3fin.Y where
 α := List Pr
 tr x := T.loop (symPrL3Step x.1.2.1) FU (x.1.2.2.1, x.2.1)
 enc x a := ((x.1.1, ()), (a, ()))
theorem symPrL3_raw (sp_cmpPr : cmpPr_T) (sp_rotPr : rotPr_T) (sp_symRPr : VhL [.s (.own 0), vi, vi, vi, .clo 93 []] × OShL cdv2q0 → Option (VhL [] × OShL cdv2q0)) (v0 : Value) (v1 v2 : Int) (d : List Pr) : runW 1 Tryz.f122 3 [0, 14, 17] symPrL3vs symPrL3os symPrL3fin [(93, cmpPr_C sp_cmpPr), (129, rotPr_C sp_rotPr), (122, Con.fx [vi, vi, vi, .clo 93 []] cdv2q0 [] cdv2q0 sp_symRPr)] [] [] (((v0, v1, v2, ()), (d, ())) : VhL symPrL3vs × OShL symPrL3os) = (bif decide (v2 > v1) then bif inR (w64 (v2 - 1)) d.length then bif inR v2 d.length then bif inR v2 d.length then bif inR (w64 (v2 - 1)) (wrE (EK.st SN.pr) d v2 (rdE (EK.st SN.pr) d (w64 (v2 - 1)))).length then some (Sum.inl ((v0, v1, w64 (v2 - 1), ()), wrE (EK.st SN.pr) (wrE (EK.st SN.pr) d v2 (rdE (EK.st SN.pr) d (w64 (v2 - 1)))) (w64 (v2 - 1)) (rdE (EK.st SN.pr) d v2), ())) else none else none else none else none
else some (Sum.inr ((v0, ()), d, ()))) := by kernel_rfl
theorem symPrL3_ok {rec : List Pr → Int → Int → Int → T (List Pr)} (symRPr_ok : Sound Tryz.prog gl 122 (Con.fx [vi, vi, vi, .clo 93 []] cdv2q0 [] cdv2q0 (PIf.spec (symRPrI rec)))) : LOk Tryz.prog gl 1 (symPrL3Q (PIf.spec symPrL3I)) (getL (body Tryz.f122) 3) := by
 refine lwk (Lc := []) (nh := []) (G := [(93, cmpPr_C cmpPrS), (129, rotPr_C rotPrS), (122, Con.fx [vi, vi, vi, .clo 93 []] cdv2q0 [] cdv2q0 (PIf.spec (symRPrI rec)))]) (cmpPr_k (rotPr_k (GOk.cons ⟨Tryz.f122, body Tryz.f122, by kernel_rfl, by kernel_rfl, by kernel_rfl⟩ symRPr_ok (GOk.nil)))) (noloopN (by kernel_rfl)) (Fin.one_ok _ _ _ _) ?_
 rintro ⟨⟨v0, v1, v2, _⟩, ⟨d, _⟩⟩ y hy
 refine ⟨_, loopP_ok (eX := fun (st : Int × List Pr) => (let v2 := st.1; let d := st.2; ((v0, v1, v2, ()), (d, ())) : VhL symPrL3vs × OShL symPrL3os)) (body := symPrL3Step v1) (fun st =>?_) _ (v2, d) y hy⟩
 obtain ⟨v2, d⟩ := st
 refine (symPrL3_raw ..).trans ?_
 unfold symPrL3Step
 repeat' (first|refine cond_outP (fun _ =>?_) (fun _ =>?_) | rfl)
abbrev symPrL2vs : List Vh := [.s (.ownC 0), vi, .clo 93 [], vi, vi]
abbrev symPrL2os : List OSh := cdv2q0
noncomputable abbrev symPrL2fin : Fin := (Fin.one 1 Tryz.f122.ntmps (.exit 4) [0, 2, 14] [.s (.ownC 0), vi, vi] cdv2q0)
noncomputable abbrev symPrL2Q (sp : VhL symPrL2vs × OShL symPrL2os → Option symPrL2fin.Y) : LCon := LCon.of Tryz.f122.ntmps [0, 2, 4, 14, 15] symPrL2vs symPrL2os symPrL2fin sp
def symPrL2Step (v1 : Int) (d : List Pr) (st : Int × Int) : T ((Int × Int) ⊕ (Int)) :=
 let v2 := st.1
 let v3 := st.2
 bif decide (v2 < v3) then
 bif inR v1 d.length then
 bif inR (w64 (sh64 (w64u (w64 (v2 + v3))) 1)) d.length then
 (cmpPrTr (rdE (EK.st SN.pr) d v1) (rdE (EK.st SN.pr) d (w64 (sh64 (w64u (w64 (v2 + v3))) 1)))).bind fun x0 =>
 bif !decide (x0 < 0) then
 .ret (Sum.inl (w64 (w64 (sh64 (w64u (w64 (v2 + v3))) 1) + 1), v3))
 else
 .ret (Sum.inl (v2, w64 (sh64 (w64u (w64 (v2 + v3))) 1)))
 else
 .bot
 else
 .bot
 else
 .ret (Sum.inr v2)
@[reducible] def symPrL2I : PIf (VhL symPrL2vs × OShL symPrL2os) symPrL2fin.Y where
 α := Int
 tr x := T.loop (symPrL2Step x.1.2.1 x.2.1) FU (x.1.2.2.2.1, x.1.2.2.2.2.1)
 enc x a := ((x.1.1, x.1.2.1, a, ()), (x.2.1, ()))
theorem symPrL2_raw (sp_cmpPr : cmpPr_T) (sp_rotPr : rotPr_T) (sp_symRPr : VhL [.s (.own 0), vi, vi, vi, .clo 93 []] × OShL cdv2q0 → Option (VhL [] × OShL cdv2q0)) (v0 : Value) (v1 v2 v3 : Int) (d : List Pr) : runW 1 Tryz.f122 2 [0, 2, 4, 14, 15] symPrL2vs symPrL2os symPrL2fin [(93, cmpPr_C sp_cmpPr), (129, rotPr_C sp_rotPr), (122, Con.fx [vi, vi, vi, .clo 93 []] cdv2q0 [] cdv2q0 sp_symRPr)] [] [] (((v0, v1, (), v2, v3, ()), (d, ())) : VhL symPrL2vs × OShL symPrL2os) = (bif decide (v2 < v3) then bif inR v1 d.length then bif inR (w64 (sh64 (w64u (w64 (v2 + v3))) 1)) d.length then (sp_cmpPr ((rdE (EK.st SN.pr) d v1, rdE (EK.st SN.pr) d (w64 (sh64 (w64u (w64 (v2 + v3))) 1)), ()), ())).bind fun val => bif !decide (val.1.1 < 0) then some (Sum.inl ((v0, v1, (), w64 (w64 (sh64 (w64u (w64 (v2 + v3))) 1) + 1), v3, ()), d, ())) else some (Sum.inl ((v0, v1, (), v2, w64 (sh64 (w64u (w64 (v2 + v3))) 1), ()), d, ())) else none else none
else some (Sum.inr ((v0, v1, v2, ()), d, ()))) := by kernel_rfl
theorem symPrL2_ok {rec : List Pr → Int → Int → Int → T (List Pr)} (symRPr_ok : Sound Tryz.prog gl 122 (Con.fx [vi, vi, vi, .clo 93 []] cdv2q0 [] cdv2q0 (PIf.spec (symRPrI rec)))) : LOk Tryz.prog gl 1 (symPrL2Q (PIf.spec symPrL2I)) (getL (body Tryz.f122) 2) := by
 refine lwk (Lc := []) (nh := []) (G := [(93, cmpPr_C cmpPrS), (129, rotPr_C rotPrS), (122, Con.fx [vi, vi, vi, .clo 93 []] cdv2q0 [] cdv2q0 (PIf.spec (symRPrI rec)))]) (cmpPr_k (rotPr_k (GOk.cons ⟨Tryz.f122, body Tryz.f122, by kernel_rfl, by kernel_rfl, by kernel_rfl⟩ symRPr_ok (GOk.nil)))) (noloopN (by kernel_rfl)) (Fin.one_ok _ _ _ _) ?_
 rintro ⟨⟨v0, v1, _, v2, v3, _⟩, ⟨d, _⟩⟩ y hy
 refine ⟨_, loopP_ok (eX := fun (st : Int × Int) => (let v2 := st.1; let v3 := st.2; ((v0, v1, (), v2, v3, ()), (d, ())) : VhL symPrL2vs × OShL symPrL2os)) (body := symPrL2Step v1 d) (fun st =>?_) _ (v2, v3) y hy⟩
 obtain ⟨v2, v3⟩ := st
 refine (symPrL2_raw ..).trans ?_
 unfold symPrL2Step
 repeat' (first|refine cond_outP (fun _ =>?_) (fun _ =>?_)|(refine bindP (fun _ =>?_); try dsimp only [selim, cond_true, cond_false, Bool.not_true, Bool.not_false, one, mI, cmpPrI, rotPrI, symRPrI]) | rfl)
abbrev symPrL1vs : List Vh := [.s (.ownC 0), vi, vi]
abbrev symPrL1os : List OSh := cdv2q0
noncomputable abbrev symPrL1fin : Fin := (Fin.one 1 Tryz.f122.ntmps (.exit 2) [0] [.s (.ownC 0)] cdv2q0)
noncomputable abbrev symPrL1Q (sp : VhL symPrL1vs × OShL symPrL1os → Option symPrL1fin.Y) : LCon := LCon.of Tryz.f122.ntmps [0, 10, 13] symPrL1vs symPrL1os symPrL1fin sp
def symPrL1Step (v1 : Int) (st : Int × List Pr) : T ((Int × List Pr) ⊕ (List Pr)) :=
 let v2 := st.1
 let d := st.2
 bif decide (v2 < w64 (v1 - 1)) then
 bif inR (w64 (v2 + 1)) d.length then
 bif inR v2 d.length then
 bif inR v2 d.length then
 bif inR (w64 (v2 + 1)) (wrE (EK.st SN.pr) d v2 (rdE (EK.st SN.pr) d (w64 (v2 + 1)))).length then
 .ret (Sum.inl (w64 (v2 + 1), wrE (EK.st SN.pr) (wrE (EK.st SN.pr) d v2 (rdE (EK.st SN.pr) d (w64 (v2 + 1)))) (w64 (v2 + 1)) (rdE (EK.st SN.pr) d v2)))
 else
 .bot
 else
 .bot
 else
 .bot
 else
 .bot
 else
 .ret (Sum.inr d)
@[reducible] def symPrL1I : PIf (VhL symPrL1vs × OShL symPrL1os) symPrL1fin.Y where
 α := List Pr
 tr x := T.loop (symPrL1Step x.1.2.1) FU (x.1.2.2.1, x.2.1)
 enc x a := ((x.1.1, ()), (a, ()))
theorem symPrL1_raw (sp_cmpPr : cmpPr_T) (sp_rotPr : rotPr_T) (sp_symRPr : VhL [.s (.own 0), vi, vi, vi, .clo 93 []] × OShL cdv2q0 → Option (VhL [] × OShL cdv2q0)) (v0 : Value) (v1 v2 : Int) (d : List Pr) : runW 1 Tryz.f122 1 [0, 10, 13] symPrL1vs symPrL1os symPrL1fin [(93, cmpPr_C sp_cmpPr), (129, rotPr_C sp_rotPr), (122, Con.fx [vi, vi, vi, .clo 93 []] cdv2q0 [] cdv2q0 sp_symRPr)] [] [] (((v0, v1, v2, ()), (d, ())) : VhL symPrL1vs × OShL symPrL1os) = (bif decide (v2 < w64 (v1 - 1)) then bif inR (w64 (v2 + 1)) d.length then bif inR v2 d.length then bif inR v2 d.length then bif inR (w64 (v2 + 1)) (wrE (EK.st SN.pr) d v2 (rdE (EK.st SN.pr) d (w64 (v2 + 1)))).length then some (Sum.inl ((v0, v1, w64 (v2 + 1), ()), wrE (EK.st SN.pr) (wrE (EK.st SN.pr) d v2 (rdE (EK.st SN.pr) d (w64 (v2 + 1)))) (w64 (v2 + 1)) (rdE (EK.st SN.pr) d v2), ())) else none else none else none else none
else some (Sum.inr ((v0, ()), d, ()))) := by kernel_rfl
theorem symPrL1_ok {rec : List Pr → Int → Int → Int → T (List Pr)} (symRPr_ok : Sound Tryz.prog gl 122 (Con.fx [vi, vi, vi, .clo 93 []] cdv2q0 [] cdv2q0 (PIf.spec (symRPrI rec)))) : LOk Tryz.prog gl 1 (symPrL1Q (PIf.spec symPrL1I)) (getL (body Tryz.f122) 1) := by
 refine lwk (Lc := []) (nh := []) (G := [(93, cmpPr_C cmpPrS), (129, rotPr_C rotPrS), (122, Con.fx [vi, vi, vi, .clo 93 []] cdv2q0 [] cdv2q0 (PIf.spec (symRPrI rec)))]) (cmpPr_k (rotPr_k (GOk.cons ⟨Tryz.f122, body Tryz.f122, by kernel_rfl, by kernel_rfl, by kernel_rfl⟩ symRPr_ok (GOk.nil)))) (noloopN (by kernel_rfl)) (Fin.one_ok _ _ _ _) ?_
 rintro ⟨⟨v0, v1, v2, _⟩, ⟨d, _⟩⟩ y hy
 refine ⟨_, loopP_ok (eX := fun (st : Int × List Pr) => (let v2 := st.1; let d := st.2; ((v0, v1, v2, ()), (d, ())) : VhL symPrL1vs × OShL symPrL1os)) (body := symPrL1Step v1) (fun st =>?_) _ (v2, d) y hy⟩
 obtain ⟨v2, d⟩ := st
 refine (symPrL1_raw ..).trans ?_
 unfold symPrL1Step
 repeat' (first|refine cond_outP (fun _ =>?_) (fun _ =>?_) | rfl)
abbrev symPrL0vs : List Vh := [.s (.ownC 0), vi, .clo 93 [], vi, vi]
abbrev symPrL0os : List OSh := cdv2q0
noncomputable abbrev symPrL0fin : Fin := (Fin.one 1 Tryz.f122.ntmps (.exit 0) [0, 1, 10] [.s (.ownC 0), vi, vi] cdv2q0)
noncomputable abbrev symPrL0Q (sp : VhL symPrL0vs × OShL symPrL0os → Option symPrL0fin.Y) : LCon := LCon.of Tryz.f122.ntmps [0, 1, 4, 10, 11] symPrL0vs symPrL0os symPrL0fin sp
def symPrL0Step (v1 : Int) (d : List Pr) (st : Int × Int) : T ((Int × Int) ⊕ (Int)) :=
 let v2 := st.1
 let v3 := st.2
 bif decide (v2 < v3) then
 bif inR (w64 (sh64 (w64u (w64 (v2 + v3))) 1)) d.length then
 bif inR v1 d.length then
 (cmpPrTr (rdE (EK.st SN.pr) d (w64 (sh64 (w64u (w64 (v2 + v3))) 1))) (rdE (EK.st SN.pr) d v1)).bind fun x0 =>
 bif decide (x0 < 0) then
 .ret (Sum.inl (w64 (w64 (sh64 (w64u (w64 (v2 + v3))) 1) + 1), v3))
 else
 .ret (Sum.inl (v2, w64 (sh64 (w64u (w64 (v2 + v3))) 1)))
 else
 .bot
 else
 .bot
 else
 .ret (Sum.inr v2)
@[reducible] def symPrL0I : PIf (VhL symPrL0vs × OShL symPrL0os) symPrL0fin.Y where
 α := Int
 tr x := T.loop (symPrL0Step x.1.2.1 x.2.1) FU (x.1.2.2.2.1, x.1.2.2.2.2.1)
 enc x a := ((x.1.1, x.1.2.1, a, ()), (x.2.1, ()))
theorem symPrL0_raw (sp_cmpPr : cmpPr_T) (sp_rotPr : rotPr_T) (sp_symRPr : VhL [.s (.own 0), vi, vi, vi, .clo 93 []] × OShL cdv2q0 → Option (VhL [] × OShL cdv2q0)) (v0 : Value) (v1 v2 v3 : Int) (d : List Pr) : runW 1 Tryz.f122 0 [0, 1, 4, 10, 11] symPrL0vs symPrL0os symPrL0fin [(93, cmpPr_C sp_cmpPr), (129, rotPr_C sp_rotPr), (122, Con.fx [vi, vi, vi, .clo 93 []] cdv2q0 [] cdv2q0 sp_symRPr)] [] [] (((v0, v1, (), v2, v3, ()), (d, ())) : VhL symPrL0vs × OShL symPrL0os) = (bif decide (v2 < v3) then bif inR (w64 (sh64 (w64u (w64 (v2 + v3))) 1)) d.length then bif inR v1 d.length then (sp_cmpPr ((rdE (EK.st SN.pr) d (w64 (sh64 (w64u (w64 (v2 + v3))) 1)), rdE (EK.st SN.pr) d v1, ()), ())).bind fun val => bif decide (val.1.1 < 0) then some (Sum.inl ((v0, v1, (), w64 (w64 (sh64 (w64u (w64 (v2 + v3))) 1) + 1), v3, ()), d, ())) else some (Sum.inl ((v0, v1, (), v2, w64 (sh64 (w64u (w64 (v2 + v3))) 1), ()), d, ())) else none else none
else some (Sum.inr ((v0, v1, v2, ()), d, ()))) := by kernel_rfl
theorem symPrL0_ok {rec : List Pr → Int → Int → Int → T (List Pr)} (symRPr_ok : Sound Tryz.prog gl 122 (Con.fx [vi, vi, vi, .clo 93 []] cdv2q0 [] cdv2q0 (PIf.spec (symRPrI rec)))) : LOk Tryz.prog gl 1 (symPrL0Q (PIf.spec symPrL0I)) (getL (body Tryz.f122) 0) := by
 refine lwk (Lc := []) (nh := []) (G := [(93, cmpPr_C cmpPrS), (129, rotPr_C rotPrS), (122, Con.fx [vi, vi, vi, .clo 93 []] cdv2q0 [] cdv2q0 (PIf.spec (symRPrI rec)))]) (cmpPr_k (rotPr_k (GOk.cons ⟨Tryz.f122, body Tryz.f122, by kernel_rfl, by kernel_rfl, by kernel_rfl⟩ symRPr_ok (GOk.nil)))) (noloopN (by kernel_rfl)) (Fin.one_ok _ _ _ _) ?_
 rintro ⟨⟨v0, v1, _, v2, v3, _⟩, ⟨d, _⟩⟩ y hy
 refine ⟨_, loopP_ok (eX := fun (st : Int × Int) => (let v2 := st.1; let v3 := st.2; ((v0, v1, (), v2, v3, ()), (d, ())) : VhL symPrL0vs × OShL symPrL0os)) (body := symPrL0Step v1 d) (fun st =>?_) _ (v2, v3) y hy⟩
 obtain ⟨v2, v3⟩ := st
 refine (symPrL0_raw ..).trans ?_
 unfold symPrL0Step
 repeat' (first|refine cond_outP (fun _ =>?_) (fun _ =>?_)|(refine bindP (fun _ =>?_); try dsimp only [selim, cond_true, cond_false, Bool.not_true, Bool.not_false, one, mI, cmpPrI, rotPrI, symRPrI]) | rfl)
def symPrTr (rec : List Pr → Int → Int → Int → T (List Pr)) (a m b : Int) (d : List Pr) : T (List Pr) :=
 bif w64 (m - a) == 1 then
 (T.loop (symPrL0Step a d) 4611686018427387904 (m, b)).bind fun x0 =>
 (T.loop (symPrL1Step x0) 4611686018427387904 (a, d)).bind fun x1 =>
 .ret x1
 else
 bif w64 (b - m) == 1 then
 (T.loop (symPrL2Step m d) 4611686018427387904 (a, m)).bind fun x0 =>
 (T.loop (symPrL3Step x0) 4611686018427387904 (m, d)).bind fun x1 =>
 .ret x1
 else
 bif decide (m > w64 (sh64 (w64u (w64 (a + b))) 1)) then
 (T.loop (symPrL4Step a m b (w64 (sh64 (w64u (w64 (a + b))) 1)) (w64 (w64 (sh64 (w64u (w64 (a + b))) 1) + m)) (w64 (w64 (w64 (sh64 (w64u (w64 (a + b))) 1) + m) - 1)) d) 4611686018427387904 (w64 (w64 (w64 (sh64 (w64u (w64 (a + b))) 1) + m) - b), w64 (sh64 (w64u (w64 (a + b))) 1))).bind fun x0 =>
 bif decide (x0 < m) then
 bif decide (m < w64 (w64 (w64 (sh64 (w64u (w64 (a + b))) 1) + m) - x0)) then
 (rotPrTr x0 m (w64 (w64 (w64 (sh64 (w64u (w64 (a + b))) 1) + m) - x0)) d).bind fun x1 =>
 bif decide (a < x0) then
 bif decide (x0 < w64 (sh64 (w64u (w64 (a + b))) 1)) then
 (rec x1 a x0 (w64 (sh64 (w64u (w64 (a + b))) 1))).bind fun x2 =>
 bif decide (w64 (sh64 (w64u (w64 (a + b))) 1) < w64 (w64 (w64 (sh64 (w64u (w64 (a + b))) 1) + m) - x0)) then
 bif decide (w64 (w64 (w64 (sh64 (w64u (w64 (a + b))) 1) + m) - x0) < b) then
 (rec x2 (w64 (sh64 (w64u (w64 (a + b))) 1)) (w64 (w64 (w64 (sh64 (w64u (w64 (a + b))) 1) + m) - x0)) b).bind fun x3 =>
 .ret x3
 else
 .ret x2
 else
 .ret x2
 else
 bif decide (w64 (sh64 (w64u (w64 (a + b))) 1) < w64 (w64 (w64 (sh64 (w64u (w64 (a + b))) 1) + m) - x0)) then
 bif decide (w64 (w64 (w64 (sh64 (w64u (w64 (a + b))) 1) + m) - x0) < b) then
 (rec x1 (w64 (sh64 (w64u (w64 (a + b))) 1)) (w64 (w64 (w64 (sh64 (w64u (w64 (a + b))) 1) + m) - x0)) b).bind fun x2 =>
 .ret x2
 else
 .ret x1
 else
 .ret x1
 else
 bif decide (w64 (sh64 (w64u (w64 (a + b))) 1) < w64 (w64 (w64 (sh64 (w64u (w64 (a + b))) 1) + m) - x0)) then
 bif decide (w64 (w64 (w64 (sh64 (w64u (w64 (a + b))) 1) + m) - x0) < b) then
 (rec x1 (w64 (sh64 (w64u (w64 (a + b))) 1)) (w64 (w64 (w64 (sh64 (w64u (w64 (a + b))) 1) + m) - x0)) b).bind fun x2 =>
 .ret x2
 else
 .ret x1
 else
 .ret x1
 else
 bif decide (a < x0) then
 bif decide (x0 < w64 (sh64 (w64u (w64 (a + b))) 1)) then
 (rec d a x0 (w64 (sh64 (w64u (w64 (a + b))) 1))).bind fun x1 =>
 bif decide (w64 (sh64 (w64u (w64 (a + b))) 1) < w64 (w64 (w64 (sh64 (w64u (w64 (a + b))) 1) + m) - x0)) then
 bif decide (w64 (w64 (w64 (sh64 (w64u (w64 (a + b))) 1) + m) - x0) < b) then
 (rec x1 (w64 (sh64 (w64u (w64 (a + b))) 1)) (w64 (w64 (w64 (sh64 (w64u (w64 (a + b))) 1) + m) - x0)) b).bind fun x2 =>
 .ret x2
 else
 .ret x1
 else
 .ret x1
 else
 bif decide (w64 (sh64 (w64u (w64 (a + b))) 1) < w64 (w64 (w64 (sh64 (w64u (w64 (a + b))) 1) + m) - x0)) then
 bif decide (w64 (w64 (w64 (sh64 (w64u (w64 (a + b))) 1) + m) - x0) < b) then
 (rec d (w64 (sh64 (w64u (w64 (a + b))) 1)) (w64 (w64 (w64 (sh64 (w64u (w64 (a + b))) 1) + m) - x0)) b).bind fun x1 =>
 .ret x1
 else
 .ret d
 else
 .ret d
 else
 bif decide (w64 (sh64 (w64u (w64 (a + b))) 1) < w64 (w64 (w64 (sh64 (w64u (w64 (a + b))) 1) + m) - x0)) then
 bif decide (w64 (w64 (w64 (sh64 (w64u (w64 (a + b))) 1) + m) - x0) < b) then
 (rec d (w64 (sh64 (w64u (w64 (a + b))) 1)) (w64 (w64 (w64 (sh64 (w64u (w64 (a + b))) 1) + m) - x0)) b).bind fun x1 =>
 .ret x1
 else
 .ret d
 else
 .ret d
 else
 bif decide (a < x0) then
 bif decide (x0 < w64 (sh64 (w64u (w64 (a + b))) 1)) then
 (rec d a x0 (w64 (sh64 (w64u (w64 (a + b))) 1))).bind fun x1 =>
 bif decide (w64 (sh64 (w64u (w64 (a + b))) 1) < w64 (w64 (w64 (sh64 (w64u (w64 (a + b))) 1) + m) - x0)) then
 bif decide (w64 (w64 (w64 (sh64 (w64u (w64 (a + b))) 1) + m) - x0) < b) then
 (rec x1 (w64 (sh64 (w64u (w64 (a + b))) 1)) (w64 (w64 (w64 (sh64 (w64u (w64 (a + b))) 1) + m) - x0)) b).bind fun x2 =>
 .ret x2
 else
 .ret x1
 else
 .ret x1
 else
 bif decide (w64 (sh64 (w64u (w64 (a + b))) 1) < w64 (w64 (w64 (sh64 (w64u (w64 (a + b))) 1) + m) - x0)) then
 bif decide (w64 (w64 (w64 (sh64 (w64u (w64 (a + b))) 1) + m) - x0) < b) then
 (rec d (w64 (sh64 (w64u (w64 (a + b))) 1)) (w64 (w64 (w64 (sh64 (w64u (w64 (a + b))) 1) + m) - x0)) b).bind fun x1 =>
 .ret x1
 else
 .ret d
 else
 .ret d
 else
 bif decide (w64 (sh64 (w64u (w64 (a + b))) 1) < w64 (w64 (w64 (sh64 (w64u (w64 (a + b))) 1) + m) - x0)) then
 bif decide (w64 (w64 (w64 (sh64 (w64u (w64 (a + b))) 1) + m) - x0) < b) then
 (rec d (w64 (sh64 (w64u (w64 (a + b))) 1)) (w64 (w64 (w64 (sh64 (w64u (w64 (a + b))) 1) + m) - x0)) b).bind fun x1 =>
 .ret x1
 else
 .ret d
 else
 .ret d
 else
 (T.loop (symPrL4Step a m b (w64 (sh64 (w64u (w64 (a + b))) 1)) (w64 (w64 (sh64 (w64u (w64 (a + b))) 1) + m)) (w64 (w64 (w64 (sh64 (w64u (w64 (a + b))) 1) + m) - 1)) d) 4611686018427387904 (a, m)).bind fun x0 =>
 bif decide (x0 < m) then
 bif decide (m < w64 (w64 (w64 (sh64 (w64u (w64 (a + b))) 1) + m) - x0)) then
 (rotPrTr x0 m (w64 (w64 (w64 (sh64 (w64u (w64 (a + b))) 1) + m) - x0)) d).bind fun x1 =>
 bif decide (a < x0) then
 bif decide (x0 < w64 (sh64 (w64u (w64 (a + b))) 1)) then
 (rec x1 a x0 (w64 (sh64 (w64u (w64 (a + b))) 1))).bind fun x2 =>
 bif decide (w64 (sh64 (w64u (w64 (a + b))) 1) < w64 (w64 (w64 (sh64 (w64u (w64 (a + b))) 1) + m) - x0)) then
 bif decide (w64 (w64 (w64 (sh64 (w64u (w64 (a + b))) 1) + m) - x0) < b) then
 (rec x2 (w64 (sh64 (w64u (w64 (a + b))) 1)) (w64 (w64 (w64 (sh64 (w64u (w64 (a + b))) 1) + m) - x0)) b).bind fun x3 =>
 .ret x3
 else
 .ret x2
 else
 .ret x2
 else
 bif decide (w64 (sh64 (w64u (w64 (a + b))) 1) < w64 (w64 (w64 (sh64 (w64u (w64 (a + b))) 1) + m) - x0)) then
 bif decide (w64 (w64 (w64 (sh64 (w64u (w64 (a + b))) 1) + m) - x0) < b) then
 (rec x1 (w64 (sh64 (w64u (w64 (a + b))) 1)) (w64 (w64 (w64 (sh64 (w64u (w64 (a + b))) 1) + m) - x0)) b).bind fun x2 =>
 .ret x2
 else
 .ret x1
 else
 .ret x1
 else
 bif decide (w64 (sh64 (w64u (w64 (a + b))) 1) < w64 (w64 (w64 (sh64 (w64u (w64 (a + b))) 1) + m) - x0)) then
 bif decide (w64 (w64 (w64 (sh64 (w64u (w64 (a + b))) 1) + m) - x0) < b) then
 (rec x1 (w64 (sh64 (w64u (w64 (a + b))) 1)) (w64 (w64 (w64 (sh64 (w64u (w64 (a + b))) 1) + m) - x0)) b).bind fun x2 =>
 .ret x2
 else
 .ret x1
 else
 .ret x1
 else
 bif decide (a < x0) then
 bif decide (x0 < w64 (sh64 (w64u (w64 (a + b))) 1)) then
 (rec d a x0 (w64 (sh64 (w64u (w64 (a + b))) 1))).bind fun x1 =>
 bif decide (w64 (sh64 (w64u (w64 (a + b))) 1) < w64 (w64 (w64 (sh64 (w64u (w64 (a + b))) 1) + m) - x0)) then
 bif decide (w64 (w64 (w64 (sh64 (w64u (w64 (a + b))) 1) + m) - x0) < b) then
 (rec x1 (w64 (sh64 (w64u (w64 (a + b))) 1)) (w64 (w64 (w64 (sh64 (w64u (w64 (a + b))) 1) + m) - x0)) b).bind fun x2 =>
 .ret x2
 else
 .ret x1
 else
 .ret x1
 else
 bif decide (w64 (sh64 (w64u (w64 (a + b))) 1) < w64 (w64 (w64 (sh64 (w64u (w64 (a + b))) 1) + m) - x0)) then
 bif decide (w64 (w64 (w64 (sh64 (w64u (w64 (a + b))) 1) + m) - x0) < b) then
 (rec d (w64 (sh64 (w64u (w64 (a + b))) 1)) (w64 (w64 (w64 (sh64 (w64u (w64 (a + b))) 1) + m) - x0)) b).bind fun x1 =>
 .ret x1
 else
 .ret d
 else
 .ret d
 else
 bif decide (w64 (sh64 (w64u (w64 (a + b))) 1) < w64 (w64 (w64 (sh64 (w64u (w64 (a + b))) 1) + m) - x0)) then
 bif decide (w64 (w64 (w64 (sh64 (w64u (w64 (a + b))) 1) + m) - x0) < b) then
 (rec d (w64 (sh64 (w64u (w64 (a + b))) 1)) (w64 (w64 (w64 (sh64 (w64u (w64 (a + b))) 1) + m) - x0)) b).bind fun x1 =>
 .ret x1
 else
 .ret d
 else
 .ret d
 else
 bif decide (a < x0) then
 bif decide (x0 < w64 (sh64 (w64u (w64 (a + b))) 1)) then
 (rec d a x0 (w64 (sh64 (w64u (w64 (a + b))) 1))).bind fun x1 =>
 bif decide (w64 (sh64 (w64u (w64 (a + b))) 1) < w64 (w64 (w64 (sh64 (w64u (w64 (a + b))) 1) + m) - x0)) then
 bif decide (w64 (w64 (w64 (sh64 (w64u (w64 (a + b))) 1) + m) - x0) < b) then
 (rec x1 (w64 (sh64 (w64u (w64 (a + b))) 1)) (w64 (w64 (w64 (sh64 (w64u (w64 (a + b))) 1) + m) - x0)) b).bind fun x2 =>
 .ret x2
 else
 .ret x1
 else
 .ret x1
 else
 bif decide (w64 (sh64 (w64u (w64 (a + b))) 1) < w64 (w64 (w64 (sh64 (w64u (w64 (a + b))) 1) + m) - x0)) then
 bif decide (w64 (w64 (w64 (sh64 (w64u (w64 (a + b))) 1) + m) - x0) < b) then
 (rec d (w64 (sh64 (w64u (w64 (a + b))) 1)) (w64 (w64 (w64 (sh64 (w64u (w64 (a + b))) 1) + m) - x0)) b).bind fun x1 =>
 .ret x1
 else
 .ret d
 else
 .ret d
 else
 bif decide (w64 (sh64 (w64u (w64 (a + b))) 1) < w64 (w64 (w64 (sh64 (w64u (w64 (a + b))) 1) + m) - x0)) then
 bif decide (w64 (w64 (w64 (sh64 (w64u (w64 (a + b))) 1) + m) - x0) < b) then
 (rec d (w64 (sh64 (w64u (w64 (a + b))) 1)) (w64 (w64 (w64 (sh64 (w64u (w64 (a + b))) 1) + m) - x0)) b).bind fun x1 =>
 .ret x1
 else
 .ret d
 else
 .ret d
@[reducible] def symPrCI (rec : List Pr → Int → Int → Int → T (List Pr)) : PIf (VhL [.s (.ownC 0), vi, vi, vi, .clo 93 []] × OShL cdv2q0) (VhL [.s (.ownC 0)] × OShL cdv2q0) where
 α := List Pr
 tr x := (symPrTr rec) x.1.2.1 x.1.2.2.1 x.1.2.2.2.1 x.2.1
 enc x a := ((x.1.1, ()), (a, ()))
@[reducible] def symPrI (rec : List Pr → Int → Int → Int → T (List Pr)) : PIf (VhL [.s (.own 0), vi, vi, vi, .clo 93 []] × OShL cdv2q0) (VhL [] × OShL cdv2q0) where
 α := List Pr
 tr x := (symPrTr rec) x.1.2.1 x.1.2.2.1 x.1.2.2.2.1 x.2.1
 enc x a := ((), (a, ()))
abbrev symPr_T : Type := VhL [.s (.own 0), vi, vi, vi, .clo 93 []] × OShL cdv2q0 → Option (VhL [] × OShL cdv2q0)
noncomputable abbrev symPr_C (sp : symPr_T) : Con := Con.fx [vi, vi, vi, .clo 93 []] cdv2q0 [] cdv2q0 sp
theorem symPr_raw (sp_cmpPr : cmpPr_T) (sp_rotPr : rotPr_T) (sp_symRPr : VhL [.s (.own 0), vi, vi, vi, .clo 93 []] × OShL cdv2q0 → Option (VhL [] × OShL cdv2q0)) (sp_symPrL0 : VhL symPrL0vs × OShL symPrL0os → Option symPrL0fin.Y) (sp_symPrL1 : VhL symPrL1vs × OShL symPrL1os → Option symPrL1fin.Y) (sp_symPrL2 : VhL symPrL2vs × OShL symPrL2os → Option symPrL2fin.Y) (sp_symPrL3 : VhL symPrL3vs × OShL symPrL3os → Option symPrL3fin.Y) (sp_symPrL4 : VhL symPrL4vs × OShL symPrL4os → Option symPrL4fin.Y) (c0 : Value) (a m b : Int) (d : List Pr) : runX Tryz.f122 [vi, vi, vi, .clo 93 []] cdv2q0 [] cdv2q0 [(93, cmpPr_C sp_cmpPr), (129, rotPr_C sp_rotPr), (122, Con.fx [vi, vi, vi, .clo 93 []] cdv2q0 [] cdv2q0 sp_symRPr)] [(3, symPrL0Q sp_symPrL0), (9, symPrL1Q sp_symPrL1), (15, symPrL2Q sp_symPrL2), (21, symPrL3Q sp_symPrL3), (33, symPrL4Q sp_symPrL4)] [] (((c0, a, m, b, (), ()), (d, ())) : VhL [.s (.ownC 0), vi, vi, vi, .clo 93 []] × OShL cdv2q0) = (bif w64 (m - a) == 1 then (sp_symPrL0 ((c0, a, (), m, b, ()), d, ())).bind fun val => (sp_symPrL1 ((val.1.1, val.1.2.2.1, val.1.2.1, ()), val.2.1, ())).bind fun val => some ((val.1.1, ()), val.2.1, ())
else
 bif w64 (b - m) == 1 then (sp_symPrL2 ((c0, m, (), a, m, ()), d, ())).bind fun val => (sp_symPrL3 ((val.1.1, val.1.2.2.1, val.1.2.1, ()), val.2.1, ())).bind fun val => some ((val.1.1, ()), val.2.1, ())
 else
  bif decide (m > w64 (sh64 (w64u (w64 (a + b))) 1)) then
   (sp_symPrL4
      ((c0, a, m, b, (), w64 (sh64 (w64u (w64 (a + b))) 1), w64 (w64 (sh64 (w64u (w64 (a + b))) 1) + m), w64 (w64 (w64 (sh64 (w64u (w64 (a + b))) 1) + m) - b), w64 (sh64 (w64u (w64 (a + b))) 1),
        w64 (w64 (w64 (sh64 (w64u (w64 (a + b))) 1) + m) - 1), ()),
       d, ())).bind
    fun val =>
    bif decide (val.1.2.2.2.2.2.2.2.1 < val.1.2.2.1) then
     bif decide (val.1.2.2.1 < w64 (val.1.2.2.2.2.2.2.1 - val.1.2.2.2.2.2.2.2.1)) then
      (sp_rotPr (((), val.1.2.2.2.2.2.2.2.1, val.1.2.2.1, w64 (val.1.2.2.2.2.2.2.1 - val.1.2.2.2.2.2.2.2.1), (), ()), val.2.1, ())).bind fun val_1 =>
       bif decide (val.1.2.1 < val.1.2.2.2.2.2.2.2.1) then
        bif decide (val.1.2.2.2.2.2.2.2.1 < val.1.2.2.2.2.2.1) then
         (sp_symRPr (((), val.1.2.1, val.1.2.2.2.2.2.2.2.1, val.1.2.2.2.2.2.1, (), ()), val_1.2.1, ())).bind fun val_2 =>
          bif decide (val.1.2.2.2.2.2.1 < w64 (val.1.2.2.2.2.2.2.1 - val.1.2.2.2.2.2.2.2.1)) then
           bif decide (w64 (val.1.2.2.2.2.2.2.1 - val.1.2.2.2.2.2.2.2.1) < val.1.2.2.2.1) then
            (sp_symRPr (((), val.1.2.2.2.2.2.1, w64 (val.1.2.2.2.2.2.2.1 - val.1.2.2.2.2.2.2.2.1), val.1.2.2.2.1, (), ()), val_2.2.1, ())).bind fun val_3 =>
             some ((val.1.1, ()), val_3.2.1, ())
           else some ((val.1.1, ()), val_2.2.1, ())
          else some ((val.1.1, ()), val_2.2.1, ())
        else
         bif decide (val.1.2.2.2.2.2.1 < w64 (val.1.2.2.2.2.2.2.1 - val.1.2.2.2.2.2.2.2.1)) then
          bif decide (w64 (val.1.2.2.2.2.2.2.1 - val.1.2.2.2.2.2.2.2.1) < val.1.2.2.2.1) then
           (sp_symRPr (((), val.1.2.2.2.2.2.1, w64 (val.1.2.2.2.2.2.2.1 - val.1.2.2.2.2.2.2.2.1), val.1.2.2.2.1, (), ()), val_1.2.1, ())).bind fun val_2 =>
            some ((val.1.1, ()), val_2.2.1, ())
          else some ((val.1.1, ()), val_1.2.1, ())
         else some ((val.1.1, ()), val_1.2.1, ())
       else
        bif decide (val.1.2.2.2.2.2.1 < w64 (val.1.2.2.2.2.2.2.1 - val.1.2.2.2.2.2.2.2.1)) then
         bif decide (w64 (val.1.2.2.2.2.2.2.1 - val.1.2.2.2.2.2.2.2.1) < val.1.2.2.2.1) then
          (sp_symRPr (((), val.1.2.2.2.2.2.1, w64 (val.1.2.2.2.2.2.2.1 - val.1.2.2.2.2.2.2.2.1), val.1.2.2.2.1, (), ()), val_1.2.1, ())).bind fun val_2 =>
           some ((val.1.1, ()), val_2.2.1, ())
         else some ((val.1.1, ()), val_1.2.1, ())
        else some ((val.1.1, ()), val_1.2.1, ())
     else
      bif decide (val.1.2.1 < val.1.2.2.2.2.2.2.2.1) then
       bif decide (val.1.2.2.2.2.2.2.2.1 < val.1.2.2.2.2.2.1) then
        (sp_symRPr (((), val.1.2.1, val.1.2.2.2.2.2.2.2.1, val.1.2.2.2.2.2.1, (), ()), val.2.1, ())).bind fun val_1 =>
         bif decide (val.1.2.2.2.2.2.1 < w64 (val.1.2.2.2.2.2.2.1 - val.1.2.2.2.2.2.2.2.1)) then
          bif decide (w64 (val.1.2.2.2.2.2.2.1 - val.1.2.2.2.2.2.2.2.1) < val.1.2.2.2.1) then
           (sp_symRPr (((), val.1.2.2.2.2.2.1, w64 (val.1.2.2.2.2.2.2.1 - val.1.2.2.2.2.2.2.2.1), val.1.2.2.2.1, (), ()), val_1.2.1, ())).bind fun val_2 =>
            some ((val.1.1, ()), val_2.2.1, ())
          else some ((val.1.1, ()), val_1.2.1, ())
         else some ((val.1.1, ()), val_1.2.1, ())
       else
        bif decide (val.1.2.2.2.2.2.1 < w64 (val.1.2.2.2.2.2.2.1 - val.1.2.2.2.2.2.2.2.1)) then
         bif decide (w64 (val.1.2.2.2.2.2.2.1 - val.1.2.2.2.2.2.2.2.1) < val.1.2.2.2.1) then
          (sp_symRPr (((), val.1.2.2.2.2.2.1, w64 (val.1.2.2.2.2.2.2.1 - val.1.2.2.2.2.2.2.2.1), val.1.2.2.2.1, (), ()), val.2.1, ())).bind fun val_1 =>
           some ((val.1.1, ()), val_1.2.1, ())
         else some ((val.1.1, ()), val.2.1, ())
        else some ((val.1.1, ()), val.2.1, ())
      else
       bif decide (val.1.2.2.2.2.2.1 < w64 (val.1.2.2.2.2.2.2.1 - val.1.2.2.2.2.2.2.2.1)) then
        bif decide (w64 (val.1.2.2.2.2.2.2.1 - val.1.2.2.2.2.2.2.2.1) < val.1.2.2.2.1) then
         (sp_symRPr (((), val.1.2.2.2.2.2.1, w64 (val.1.2.2.2.2.2.2.1 - val.1.2.2.2.2.2.2.2.1), val.1.2.2.2.1, (), ()), val.2.1, ())).bind fun val_1 =>
          some ((val.1.1, ()), val_1.2.1, ())
        else some ((val.1.1, ()), val.2.1, ())
       else some ((val.1.1, ()), val.2.1, ())
    else
     bif decide (val.1.2.1 < val.1.2.2.2.2.2.2.2.1) then
      bif decide (val.1.2.2.2.2.2.2.2.1 < val.1.2.2.2.2.2.1) then
       (sp_symRPr (((), val.1.2.1, val.1.2.2.2.2.2.2.2.1, val.1.2.2.2.2.2.1, (), ()), val.2.1, ())).bind fun val_1 =>
        bif decide (val.1.2.2.2.2.2.1 < w64 (val.1.2.2.2.2.2.2.1 - val.1.2.2.2.2.2.2.2.1)) then
         bif decide (w64 (val.1.2.2.2.2.2.2.1 - val.1.2.2.2.2.2.2.2.1) < val.1.2.2.2.1) then
          (sp_symRPr (((), val.1.2.2.2.2.2.1, w64 (val.1.2.2.2.2.2.2.1 - val.1.2.2.2.2.2.2.2.1), val.1.2.2.2.1, (), ()), val_1.2.1, ())).bind fun val_2 =>
           some ((val.1.1, ()), val_2.2.1, ())
         else some ((val.1.1, ()), val_1.2.1, ())
        else some ((val.1.1, ()), val_1.2.1, ())
      else
       bif decide (val.1.2.2.2.2.2.1 < w64 (val.1.2.2.2.2.2.2.1 - val.1.2.2.2.2.2.2.2.1)) then
        bif decide (w64 (val.1.2.2.2.2.2.2.1 - val.1.2.2.2.2.2.2.2.1) < val.1.2.2.2.1) then
         (sp_symRPr (((), val.1.2.2.2.2.2.1, w64 (val.1.2.2.2.2.2.2.1 - val.1.2.2.2.2.2.2.2.1), val.1.2.2.2.1, (), ()), val.2.1, ())).bind fun val_1 =>
          some ((val.1.1, ()), val_1.2.1, ())
        else some ((val.1.1, ()), val.2.1, ())
       else some ((val.1.1, ()), val.2.1, ())
     else
      bif decide (val.1.2.2.2.2.2.1 < w64 (val.1.2.2.2.2.2.2.1 - val.1.2.2.2.2.2.2.2.1)) then
       bif decide (w64 (val.1.2.2.2.2.2.2.1 - val.1.2.2.2.2.2.2.2.1) < val.1.2.2.2.1) then
        (sp_symRPr (((), val.1.2.2.2.2.2.1, w64 (val.1.2.2.2.2.2.2.1 - val.1.2.2.2.2.2.2.2.1), val.1.2.2.2.1, (), ()), val.2.1, ())).bind fun val_1 =>
         some ((val.1.1, ()), val_1.2.1, ())
       else some ((val.1.1, ()), val.2.1, ())
      else some ((val.1.1, ()), val.2.1, ())
  else
   (sp_symPrL4 ((c0, a, m, b, (), w64 (sh64 (w64u (w64 (a + b))) 1), w64 (w64 (sh64 (w64u (w64 (a + b))) 1) + m), a, m, w64 (w64 (w64 (sh64 (w64u (w64 (a + b))) 1) + m) - 1), ()), d, ())).bind fun val =>
    bif decide (val.1.2.2.2.2.2.2.2.1 < val.1.2.2.1) then
     bif decide (val.1.2.2.1 < w64 (val.1.2.2.2.2.2.2.1 - val.1.2.2.2.2.2.2.2.1)) then
      (sp_rotPr (((), val.1.2.2.2.2.2.2.2.1, val.1.2.2.1, w64 (val.1.2.2.2.2.2.2.1 - val.1.2.2.2.2.2.2.2.1), (), ()), val.2.1, ())).bind fun val_1 =>
       bif decide (val.1.2.1 < val.1.2.2.2.2.2.2.2.1) then
        bif decide (val.1.2.2.2.2.2.2.2.1 < val.1.2.2.2.2.2.1) then
         (sp_symRPr (((), val.1.2.1, val.1.2.2.2.2.2.2.2.1, val.1.2.2.2.2.2.1, (), ()), val_1.2.1, ())).bind fun val_2 =>
          bif decide (val.1.2.2.2.2.2.1 < w64 (val.1.2.2.2.2.2.2.1 - val.1.2.2.2.2.2.2.2.1)) then
           bif decide (w64 (val.1.2.2.2.2.2.2.1 - val.1.2.2.2.2.2.2.2.1) < val.1.2.2.2.1) then
            (sp_symRPr (((), val.1.2.2.2.2.2.1, w64 (val.1.2.2.2.2.2.2.1 - val.1.2.2.2.2.2.2.2.1), val.1.2.2.2.1, (), ()), val_2.2.1, ())).bind fun val_3 =>
             some ((val.1.1, ()), val_3.2.1, ())
           else some ((val.1.1, ()), val_2.2.1, ())
          else some ((val.1.1, ()), val_2.2.1, ())
        else
         bif decide (val.1.2.2.2.2.2.1 < w64 (val.1.2.2.2.2.2.2.1 - val.1.2.2.2.2.2.2.2.1)) then
          bif decide (w64 (val.1.2.2.2.2.2.2.1 - val.1.2.2.2.2.2.2.2.1) < val.1.2.2.2.1) then
           (sp_symRPr (((), val.1.2.2.2.2.2.1, w64 (val.1.2.2.2.2.2.2.1 - val.1.2.2.2.2.2.2.2.1), val.1.2.2.2.1, (), ()), val_1.2.1, ())).bind fun val_2 =>
            some ((val.1.1, ()), val_2.2.1, ())
          else some ((val.1.1, ()), val_1.2.1, ())
         else some ((val.1.1, ()), val_1.2.1, ())
       else
        bif decide (val.1.2.2.2.2.2.1 < w64 (val.1.2.2.2.2.2.2.1 - val.1.2.2.2.2.2.2.2.1)) then
         bif decide (w64 (val.1.2.2.2.2.2.2.1 - val.1.2.2.2.2.2.2.2.1) < val.1.2.2.2.1) then
          (sp_symRPr (((), val.1.2.2.2.2.2.1, w64 (val.1.2.2.2.2.2.2.1 - val.1.2.2.2.2.2.2.2.1), val.1.2.2.2.1, (), ()), val_1.2.1, ())).bind fun val_2 =>
           some ((val.1.1, ()), val_2.2.1, ())
         else some ((val.1.1, ()), val_1.2.1, ())
        else some ((val.1.1, ()), val_1.2.1, ())
     else
      bif decide (val.1.2.1 < val.1.2.2.2.2.2.2.2.1) then
       bif decide (val.1.2.2.2.2.2.2.2.1 < val.1.2.2.2.2.2.1) then
        (sp_symRPr (((), val.1.2.1, val.1.2.2.2.2.2.2.2.1, val.1.2.2.2.2.2.1, (), ()), val.2.1, ())).bind fun val_1 =>
         bif decide (val.1.2.2.2.2.2.1 < w64 (val.1.2.2.2.2.2.2.1 - val.1.2.2.2.2.2.2.2.1)) then
          bif decide (w64 (val.1.2.2.2.2.2.2.1 - val.1.2.2.2.2.2.2.2.1) < val.1.2.2.2.1) then
           (sp_symRPr (((), val.1.2.2.2.2.2.1, w64 (val.1.2.2.2.2.2.2.1 - val.1.2.2.2.2.2.2.2.1), val.1.2.2.2.1, (), ()), val_1.2.1, ())).bind fun val_2 =>
            some ((val.1.1, ()), val_2.2.1, ())
          else some ((val.1.1, ()), val_1.2.1, ())
         else some ((val.1.1, ()), val_1.2.1, ())
       else
        bif decide (val.1.2.2.2.2.2.1 < w64 (val.1.2.2.2.2.2.2.1 - val.1.2.2.2.2.2.2.2.1)) then
         bif decide (w64 (val.1.2.2.2.2.2.2.1 - val.1.2.2.2.2.2.2.2.1) < val.1.2.2.2.1) then
          (sp_symRPr (((), val.1.2.2.2.2.2.1, w64 (val.1.2.2.2.2.2.2.1 - val.1.2.2.2.2.2.2.2.1), val.1.2.2.2.1, (), ()), val.2.1, ())).bind fun val_1 =>
           some ((val.1.1, ()), val_1.2.1, ())
         else some ((val.1.1, ()), val.2.1, ())
        else some ((val.1.1, ()), val.2.1, ())
      else
       bif decide (val.1.2.2.2.2.2.1 < w64 (val.1.2.2.2.2.2.2.1 - val.1.2.2.2.2.2.2.2.1)) then
        bif decide (w64 (val.1.2.2.2.2.2.2.1 - val.1.2.2.2.2.2.2.2.1) < val.1.2.2.2.1) then
         (sp_symRPr (((), val.1.2.2.2.2.2.1, w64 (val.1.2.2.2.2.2.2.1 - val.1.2.2.2.2.2.2.2.1), val.1.2.2.2.1, (), ()), val.2.1, ())).bind fun val_1 =>
          some ((val.1.1, ()), val_1.2.1, ())
        else some ((val.1.1, ()), val.2.1, ())
       else some ((val.1.1, ()), val.2.1, ())
    else
     bif decide (val.1.2.1 < val.1.2.2.2.2.2.2.2.1) then
      bif decide (val.1.2.2.2.2.2.2.2.1 < val.1.2.2.2.2.2.1) then
       (sp_symRPr (((), val.1.2.1, val.1.2.2.2.2.2.2.2.1, val.1.2.2.2.2.2.1, (), ()), val.2.1, ())).bind fun val_1 =>
        bif decide (val.1.2.2.2.2.2.1 < w64 (val.1.2.2.2.2.2.2.1 - val.1.2.2.2.2.2.2.2.1)) then
         bif decide (w64 (val.1.2.2.2.2.2.2.1 - val.1.2.2.2.2.2.2.2.1) < val.1.2.2.2.1) then
          (sp_symRPr (((), val.1.2.2.2.2.2.1, w64 (val.1.2.2.2.2.2.2.1 - val.1.2.2.2.2.2.2.2.1), val.1.2.2.2.1, (), ()), val_1.2.1, ())).bind fun val_2 =>
           some ((val.1.1, ()), val_2.2.1, ())
         else some ((val.1.1, ()), val_1.2.1, ())
        else some ((val.1.1, ()), val_1.2.1, ())
      else
       bif decide (val.1.2.2.2.2.2.1 < w64 (val.1.2.2.2.2.2.2.1 - val.1.2.2.2.2.2.2.2.1)) then
        bif decide (w64 (val.1.2.2.2.2.2.2.1 - val.1.2.2.2.2.2.2.2.1) < val.1.2.2.2.1) then
         (sp_symRPr (((), val.1.2.2.2.2.2.1, w64 (val.1.2.2.2.2.2.2.1 - val.1.2.2.2.2.2.2.2.1), val.1.2.2.2.1, (), ()), val.2.1, ())).bind fun val_1 =>
          some ((val.1.1, ()), val_1.2.1, ())
        else some ((val.1.1, ()), val.2.1, ())
       else some ((val.1.1, ()), val.2.1, ())
     else
      bif decide (val.1.2.2.2.2.2.1 < w64 (val.1.2.2.2.2.2.2.1 - val.1.2.2.2.2.2.2.2.1)) then
       bif decide (w64 (val.1.2.2.2.2.2.2.1 - val.1.2.2.2.2.2.2.2.1) < val.1.2.2.2.1) then
        (sp_symRPr (((), val.1.2.2.2.2.2.1, w64 (val.1.2.2.2.2.2.2.1 - val.1.2.2.2.2.2.2.2.1), val.1.2.2.2.1, (), ()), val.2.1, ())).bind fun val_1 =>
         some ((val.1.1, ()), val_1.2.1, ())
       else some ((val.1.1, ()), val.2.1, ())
      else some ((val.1.1, ()), val.2.1, ())) := by kernel_rfl
theorem symPr_ok {rec : List Pr → Int → Int → Int → T (List Pr)} (symRPr_ok : Sound Tryz.prog gl 122 (Con.fx [vi, vi, vi, .clo 93 []] cdv2q0 [] cdv2q0 (PIf.spec (symRPrI rec)))) : Sound Tryz.prog gl 122 (symPr_C (PIf.spec (symPrI rec))) := by
 refine cxk (I := (symPrCI rec)) (J := (symPrI rec)) (fn := Tryz.f122) (G := [(93, cmpPr_C cmpPrS), (129, rotPr_C rotPrS), (122, Con.fx [vi, vi, vi, .clo 93 []] cdv2q0 [] cdv2q0 (PIf.spec (symRPrI rec)))]) (cmpPr_k (rotPr_k (GOk.cons ⟨Tryz.f122, body Tryz.f122, by kernel_rfl, by kernel_rfl, by kernel_rfl⟩ symRPr_ok (GOk.nil)))) (by kernel_rfl) (by kernel_rfl) (Lc := [(3, symPrL0Q (PIf.spec symPrL0I)), (9, symPrL1Q (PIf.spec symPrL1I)), (15, symPrL2Q (PIf.spec symPrL2I)), (21, symPrL3Q (PIf.spec symPrL3I)), (33, symPrL4Q (PIf.spec symPrL4I))]) (nh := []) (lcok (bs := [getL (body Tryz.f122) 0, getL (body Tryz.f122) 1, getL (body Tryz.f122) 2, getL (body Tryz.f122) 3, getL (body Tryz.f122) 4]) (by kernel_rfl) ⟨lone_ok (q := (3, symPrL0Q (PIf.spec symPrL0I))) (by kernel_rfl) (symPrL0_ok symRPr_ok), lone_ok (q := (9, symPrL1Q (PIf.spec symPrL1I))) (by kernel_rfl) (symPrL1_ok symRPr_ok), lone_ok (q := (15, symPrL2Q (PIf.spec symPrL2I))) (by kernel_rfl) (symPrL2_ok symRPr_ok), lone_ok (q := (21, symPrL3Q (PIf.spec symPrL3I))) (by kernel_rfl) (symPrL3_ok symRPr_ok), lone_ok (q := (33, symPrL4Q (PIf.spec symPrL4I))) (by kernel_rfl) (symPrL4_ok symRPr_ok), trivial⟩) ?_ (fun c0 x o y h => by obtain ⟨a, h1, rfl⟩ := Option.map_eq_some_iff.1 h; exact Option.map_eq_some_iff.2 ⟨a, h1, rfl⟩)
 rintro ⟨⟨c0, a, m, b, _, _⟩, ⟨d, _⟩⟩
 refine (symPr_raw ..).trans ?_
 show _ = (((symPrTr rec) a m b d).val).map ((symPrCI rec).enc ((c0, a, m, b, (), ()), (d, ())))
 unfold symPrTr
 repeat' (first|refine cond_outP (fun _ =>?_) (fun _ =>?_)|(refine bindP (fun _ =>?_); try dsimp only [selim, cond_true, cond_false, Bool.not_true, Bool.not_false, one, mI, cmpPrI, rotPrI, symRPrI, symPrL0I, symPrL1I, symPrL2I, symPrL3I, symPrL4I]) | rfl)
def symKPr : Nat → List Pr → Int → Int → Int → T (List Pr)
 | 0 => fun _ _ _ _ => .bot
 | k + 1 => fun d a m b => symPrTr (symKPr k) a m b d
theorem symKPr_ok : ∀ k, Sound Tryz.prog gl 122 (Con.fx [vi, vi, vi, .clo 93 []] cdv2q0 [] cdv2q0 (PIf.spec (symRPrI (symKPr k))))
 | 0 => fun _ _ _ _ _ hy => by cases hy
 | k + 1 => symPr_ok (symKPr_ok k)
def sortMPr : List Pr → Int → Int → Int → T (List Pr) := symKPr FU
@[reducible] def symMPrI : PIf (VhL [.s (.own 0), vi, vi, vi, .clo 93 []] × OShL cdv2q0) (VhL [] × OShL cdv2q0) where
 α := List Pr
 tr x := sortMPr x.2.1 x.1.2.1 x.1.2.2.1 x.1.2.2.2.1
 enc x a := ((), (a, ()))
theorem symMPr_ok : Sound Tryz.prog gl 122 (Con.fx [vi, vi, vi, .clo 93 []] cdv2q0 [] cdv2q0 (PIf.spec symMPrI)) := symKPr_ok FU
abbrev cdv3q0 : List OSh := [.arr (.st .pr)]
abbrev stabVPrL2vs : List Vh := [.s (.ownC 0), vi, .clo 93 [], vi, vi, vi]
abbrev stabVPrL2os : List OSh := cdv3q0
noncomputable abbrev stabVPrL2fin : Fin := (Fin.one 1 Tryz.f115.ntmps (.exit 4) [0, 1, 2, 6, 7] [.s (.ownC 0), vi, .clo 93 [], vi, vi] cdv3q0)
noncomputable abbrev stabVPrL2Q (sp : VhL stabVPrL2vs × OShL stabVPrL2os → Option stabVPrL2fin.Y) : LCon := LCon.of Tryz.f115.ntmps [0, 1, 2, 6, 7, 8] stabVPrL2vs stabVPrL2os stabVPrL2fin sp
def stabVPrL2Step (v1 v2 : Int) (st : Int × Int × List Pr) : T ((Int × Int × List Pr) ⊕ (Int × List Pr)) :=
 let v3 := st.1
 let v4 := st.2.1
 let d := st.2.2
 bif decide (v4 ≤ v1) then
 (sortMPr d v3 (w64 (v3 + v2)) v4).bind fun x0 =>
 .ret (Sum.inl (v4, w64 (v4 + w64 (2 * v2)), x0))
 else
 .ret (Sum.inr (v3, d))
@[reducible] def stabVPrL2I : PIf (VhL stabVPrL2vs × OShL stabVPrL2os) stabVPrL2fin.Y where
 α := Int × List Pr
 tr x := T.loop (stabVPrL2Step x.1.2.1 x.1.2.2.2.1) FU (x.1.2.2.2.2.1, x.1.2.2.2.2.2.1, x.2.1)
 enc x a := ((x.1.1, x.1.2.1, (), x.1.2.2.2.1, a.1, ()), (a.2, ()))
theorem stabVPrL2_raw (p0 : cmpPr_T) (p1 : insPr_T) (p2 : VhL [.s (.own 0), vi, vi, vi, .clo 93 []] × OShL cdv3q0 → Option (VhL [] × OShL cdv3q0)) (v0 : Value) (v1 v2 v3 v4 : Int) (d : List Pr) : runW 1 Tryz.f115 2 [0, 1, 2, 6, 7, 8] stabVPrL2vs stabVPrL2os stabVPrL2fin [(93, cmpPr_C p0), (121, insPr_C p1), (122, Con.fx [vi, vi, vi, .clo 93 []] cdv3q0 [] cdv3q0 p2)] [] [] (((v0, v1, (), v2, v3, v4, ()), (d, ())) : VhL stabVPrL2vs × OShL stabVPrL2os) = (bif decide (v4 ≤ v1) then (p2 (((), v3, w64 (v3 + v2), v4, (), ()), d, ())).bind fun z => some (Sum.inl ((v0, v1, (), v2, v4, w64 (v4 + w64 (2 * v2)), ()), z.2.1, ())) else some (Sum.inr ((v0, v1, (), v2, v3, ()), d, ()))) := by kernel_rfl
theorem stabVPrL2_ok : LOk Tryz.prog gl 1 (stabVPrL2Q (PIf.spec stabVPrL2I)) (getL (body Tryz.f115) 2) := by
 refine lwk (Lc := []) (nh := []) (G := [(93, cmpPr_C cmpPrS), (121, insPr_C insPrS), (122, Con.fx [vi, vi, vi, .clo 93 []] cdv3q0 [] cdv3q0 (PIf.spec symMPrI))]) (cmpPr_k (insPr_k (GOk.cons ⟨Tryz.f122, body Tryz.f122, by kernel_rfl, by kernel_rfl, by kernel_rfl⟩ symMPr_ok (GOk.nil)))) (noloopN (by kernel_rfl)) (Fin.one_ok _ _ _ _) ?_
 rintro ⟨⟨v0, v1, _, v2, v3, v4, _⟩, ⟨d, _⟩⟩ y hy
 refine ⟨_, loopP_ok (eX := fun (st : Int × Int × List Pr) => (let v3 := st.1; let v4 := st.2.1; let d := st.2.2; ((v0, v1, (), v2, v3, v4, ()), (d, ())) : VhL stabVPrL2vs × OShL stabVPrL2os)) (body := stabVPrL2Step v1 v2) (fun st =>?_) _ (v3, v4, d) y hy⟩
 obtain ⟨v3, v4, d⟩ := st
 refine (stabVPrL2_raw ..).trans ?_
 unfold stabVPrL2Step
 repeat' (first|refine cond_outP (fun _ =>?_) (fun _ =>?_)|(refine bindP (fun _ =>?_); try dsimp only [selim, cond_true, cond_false, Bool.not_true, Bool.not_false, one, mI, cmpPrI, insPrI, symMPrI]) | rfl)
abbrev stabVPrL1vs : List Vh := [.s (.ownC 0), vi, .clo 93 [], vi]
abbrev stabVPrL1os : List OSh := cdv3q0
noncomputable abbrev stabVPrL1fin : Fin := (Fin.one 1 Tryz.f115.ntmps (.exit 2) [0] [.s (.ownC 0)] cdv3q0)
noncomputable abbrev stabVPrL1Q (sp : VhL stabVPrL1vs × OShL stabVPrL1os → Option stabVPrL1fin.Y) : LCon := LCon.of Tryz.f115.ntmps [0, 1, 2, 6] stabVPrL1vs stabVPrL1os stabVPrL1fin sp
def stabVPrL1Step (v1 : Int) (st : Int × List Pr) : T ((Int × List Pr) ⊕ (List Pr)) :=
 let v2 := st.1
 let d := st.2
 bif decide (v2 < v1) then
 (T.loop (stabVPrL2Step v1 v2) 4611686018427387904 (0, w64 (2 * v2), d)).bind fun x0 =>
 bif decide (w64 (x0.1 + v2) < v1) then
 (sortMPr x0.2 x0.1 (w64 (x0.1 + v2)) v1).bind fun x1 =>
 .ret (Sum.inl (w64 (v2 * 2), x1))
 else
 .ret (Sum.inl (w64 (v2 * 2), x0.2))
 else
 .ret (Sum.inr d)
@[reducible] def stabVPrL1I : PIf (VhL stabVPrL1vs × OShL stabVPrL1os) stabVPrL1fin.Y where
 α := List Pr
 tr x := T.loop (stabVPrL1Step x.1.2.1) FU (x.1.2.2.2.1, x.2.1)
 enc x a := ((x.1.1, ()), (a, ()))
theorem stabVPrL1_raw (sp_cmpPr : cmpPr_T) (sp_insPr : insPr_T) (sp_symMPr : VhL [.s (.own 0), vi, vi, vi, .clo 93 []] × OShL cdv3q0 → Option (VhL [] × OShL cdv3q0)) (sp_stabVPrL2 : VhL stabVPrL2vs × OShL stabVPrL2os → Option stabVPrL2fin.Y) (v0 : Value) (v1 v2 : Int) (d : List Pr) : runW 1 Tryz.f115 1 [0, 1, 2, 6] stabVPrL1vs stabVPrL1os stabVPrL1fin [(93, cmpPr_C sp_cmpPr), (121, insPr_C sp_insPr), (122, Con.fx [vi, vi, vi, .clo 93 []] cdv3q0 [] cdv3q0 sp_symMPr)] [(9, stabVPrL2Q sp_stabVPrL2)] [] (((v0, v1, (), v2, ()), (d, ())) : VhL stabVPrL1vs × OShL stabVPrL1os) = (bif decide (v2 < v1) then (sp_stabVPrL2 ((v0, v1, (), v2, 0, w64 (2 * v2), ()), d, ())).bind fun val => bif decide (w64 (val.1.2.2.2.2.1 + val.1.2.2.2.1) < val.1.2.1) then (sp_symMPr (((), val.1.2.2.2.2.1, w64 (val.1.2.2.2.2.1 + val.1.2.2.2.1), val.1.2.1, (), ()), val.2.1, ())).bind fun val_1 => some (Sum.inl ((val.1.1, val.1.2.1, (), w64 (val.1.2.2.2.1 * 2), ()), val_1.2.1, ())) else some (Sum.inl ((val.1.1, val.1.2.1, (), w64 (val.1.2.2.2.1 * 2), ()), val.2.1, ()))
else some (Sum.inr ((v0, ()), d, ()))) := by kernel_rfl
theorem stabVPrL1_ok : LOk Tryz.prog gl 1 (stabVPrL1Q (PIf.spec stabVPrL1I)) (getL (body Tryz.f115) 1) := by
 refine lwk (Lc := [(9, stabVPrL2Q (PIf.spec stabVPrL2I))]) (nh := []) (G := [(93, cmpPr_C cmpPrS), (121, insPr_C insPrS), (122, Con.fx [vi, vi, vi, .clo 93 []] cdv3q0 [] cdv3q0 (PIf.spec symMPrI))]) (cmpPr_k (insPr_k (GOk.cons ⟨Tryz.f122, body Tryz.f122, by kernel_rfl, by kernel_rfl, by kernel_rfl⟩ symMPr_ok (GOk.nil)))) (lcok (bs := [getL (body Tryz.f115) 2]) (by kernel_rfl) ⟨lone_ok (q := (9, stabVPrL2Q (PIf.spec stabVPrL2I))) (by kernel_rfl) stabVPrL2_ok, trivial⟩) (Fin.one_ok _ _ _ _) ?_
 rintro ⟨⟨v0, v1, _, v2, _⟩, ⟨d, _⟩⟩ y hy
 refine ⟨_, loopP_ok (eX := fun (st : Int × List Pr) => (let v2 := st.1; let d := st.2; ((v0, v1, (), v2, ()), (d, ())) : VhL stabVPrL1vs × OShL stabVPrL1os)) (body := stabVPrL1Step v1) (fun st =>?_) _ (v2, d) y hy⟩
 obtain ⟨v2, d⟩ := st
 refine (stabVPrL1_raw ..).trans ?_
 unfold stabVPrL1Step
 repeat' (first|refine cond_outP (fun _ =>?_) (fun _ =>?_)|(refine bindP (fun _ =>?_); try dsimp only [selim, cond_true, cond_false, Bool.not_true, Bool.not_false, one, mI, cmpPrI, insPrI, symMPrI, stabVPrL2I]) | rfl)
abbrev stabVPrL0vs : List Vh := [.s (.ownC 0), vi, .clo 93 [], vi, vi, vi]
abbrev stabVPrL0os : List OSh := cdv3q0
noncomputable abbrev stabVPrL0fin : Fin := (Fin.one 1 Tryz.f115.ntmps (.exit 0) [0, 1, 2, 6, 7] [.s (.ownC 0), vi, .clo 93 [], vi, vi] cdv3q0)
noncomputable abbrev stabVPrL0Q (sp : VhL stabVPrL0vs × OShL stabVPrL0os → Option stabVPrL0fin.Y) : LCon := LCon.of Tryz.f115.ntmps [0, 1, 2, 6, 7, 8] stabVPrL0vs stabVPrL0os stabVPrL0fin sp
def stabVPrL0Step (v1 v2 : Int) (st : Int × Int × List Pr) : T ((Int × Int × List Pr) ⊕ (Int × List Pr)) :=
 let v3 := st.1
 let v4 := st.2.1
 let d := st.2.2
 bif decide (v4 ≤ v1) then
 (insPrTr v3 v4 d).bind fun x0 =>
 .ret (Sum.inl (v4, w64 (v4 + v2), x0))
 else
 .ret (Sum.inr (v3, d))
@[reducible] def stabVPrL0I : PIf (VhL stabVPrL0vs × OShL stabVPrL0os) stabVPrL0fin.Y where
 α := Int × List Pr
 tr x := T.loop (stabVPrL0Step x.1.2.1 x.1.2.2.2.1) FU (x.1.2.2.2.2.1, x.1.2.2.2.2.2.1, x.2.1)
 enc x a := ((x.1.1, x.1.2.1, (), x.1.2.2.2.1, a.1, ()), (a.2, ()))
theorem stabVPrL0_raw (p0 : cmpPr_T) (p1 : insPr_T) (p2 : VhL [.s (.own 0), vi, vi, vi, .clo 93 []] × OShL cdv3q0 → Option (VhL [] × OShL cdv3q0)) (v0 : Value) (v1 v2 v3 v4 : Int) (d : List Pr) : runW 1 Tryz.f115 0 [0, 1, 2, 6, 7, 8] stabVPrL0vs stabVPrL0os stabVPrL0fin [(93, cmpPr_C p0), (121, insPr_C p1), (122, Con.fx [vi, vi, vi, .clo 93 []] cdv3q0 [] cdv3q0 p2)] [] [] (((v0, v1, (), v2, v3, v4, ()), (d, ())) : VhL stabVPrL0vs × OShL stabVPrL0os) = (bif decide (v4 ≤ v1) then (p1 (((), v3, v4, (), ()), d, ())).bind fun z => some (Sum.inl ((v0, v1, (), v2, v4, w64 (v4 + v2), ()), z.2.1, ())) else some (Sum.inr ((v0, v1, (), v2, v3, ()), d, ()))) := by kernel_rfl
theorem stabVPrL0_ok : LOk Tryz.prog gl 1 (stabVPrL0Q (PIf.spec stabVPrL0I)) (getL (body Tryz.f115) 0) := by
 refine lwk (Lc := []) (nh := []) (G := [(93, cmpPr_C cmpPrS), (121, insPr_C insPrS), (122, Con.fx [vi, vi, vi, .clo 93 []] cdv3q0 [] cdv3q0 (PIf.spec symMPrI))]) (cmpPr_k (insPr_k (GOk.cons ⟨Tryz.f122, body Tryz.f122, by kernel_rfl, by kernel_rfl, by kernel_rfl⟩ symMPr_ok (GOk.nil)))) (noloopN (by kernel_rfl)) (Fin.one_ok _ _ _ _) ?_
 rintro ⟨⟨v0, v1, _, v2, v3, v4, _⟩, ⟨d, _⟩⟩ y hy
 refine ⟨_, loopP_ok (eX := fun (st : Int × Int × List Pr) => (let v3 := st.1; let v4 := st.2.1; let d := st.2.2; ((v0, v1, (), v2, v3, v4, ()), (d, ())) : VhL stabVPrL0vs × OShL stabVPrL0os)) (body := stabVPrL0Step v1 v2) (fun st =>?_) _ (v3, v4, d) y hy⟩
 obtain ⟨v3, v4, d⟩ := st
 refine (stabVPrL0_raw ..).trans ?_
 unfold stabVPrL0Step
 repeat' (first|refine cond_outP (fun _ =>?_) (fun _ =>?_)|(refine bindP (fun _ =>?_); try dsimp only [selim, cond_true, cond_false, Bool.not_true, Bool.not_false, one, mI, cmpPrI, insPrI, symMPrI]) | rfl)
def stabVPrTr (n : Int) (d : List Pr) : T (List Pr) :=
 (T.loop (stabVPrL0Step n 20) 4611686018427387904 (0, 20, d)).bind fun x0 =>
 (insPrTr x0.1 n x0.2).bind fun x1 =>
 (T.loop (stabVPrL1Step n) 4611686018427387904 (20, x1)).bind fun x2 =>
 .ret x2
@[reducible] def stabVPrCI : PIf (VhL [.s (.ownC 0), vi, .clo 93 []] × OShL cdv3q0) (VhL [.s (.ownC 0)] × OShL cdv3q0) where
 α := List Pr
 tr x := stabVPrTr x.1.2.1 x.2.1
 enc x a := ((x.1.1, ()), (a, ()))
@[reducible] def stabVPrI : PIf (VhL [.s (.own 0), vi, .clo 93 []] × OShL cdv3q0) (VhL [] × OShL cdv3q0) where
 α := List Pr
 tr x := stabVPrTr x.1.2.1 x.2.1
 enc x a := ((), (a, ()))
abbrev stabVPr_T : Type := VhL [.s (.own 0), vi, .clo 93 []] × OShL cdv3q0 → Option (VhL [] × OShL cdv3q0)
noncomputable abbrev stabVPr_C (sp : stabVPr_T) : Con := Con.fx [vi, .clo 93 []] cdv3q0 [] cdv3q0 sp
noncomputable abbrev stabVPrS : stabVPr_T := PIf.spec stabVPrI
theorem stabVPr_raw (p0 : cmpPr_T) (p1 : insPr_T) (p2 : VhL [.s (.own 0), vi, vi, vi, .clo 93 []] × OShL cdv3q0 → Option (VhL [] × OShL cdv3q0)) (p3 : VhL stabVPrL0vs × OShL stabVPrL0os → Option stabVPrL0fin.Y) (p4 : VhL stabVPrL2vs × OShL stabVPrL2os → Option stabVPrL2fin.Y) (p5 : VhL stabVPrL1vs × OShL stabVPrL1os → Option stabVPrL1fin.Y) (c0 : Value) (n : Int) (d : List Pr) : runX Tryz.f115 [vi, .clo 93 []] cdv3q0 [] cdv3q0 [(93, cmpPr_C p0), (121, insPr_C p1), (122, Con.fx [vi, vi, vi, .clo 93 []] cdv3q0 [] cdv3q0 p2)] [(2, stabVPrL0Q p3), (9, stabVPrL2Q p4), (7, stabVPrL1Q p5)] [] (((c0, n, (), ()), (d, ())) : VhL [.s (.ownC 0), vi, .clo 93 []] × OShL cdv3q0) = ((p3 ((c0, n, (), 20, 0, 20, ()), d, ())).bind fun z => (p1 (((), z.1.2.2.2.2.1, z.1.2.1, (), ()), z.2.1, ())).bind fun z1 => (p5 ((z.1.1, z.1.2.1, (), z.1.2.2.2.1, ()), z1.2.1, ())).bind fun z => some ((z.1.1, ()), z.2.1, ())) := by kernel_rfl
theorem stabVPr_ok : Sound Tryz.prog gl 115 (stabVPr_C stabVPrS) := by
 refine cxk (I := stabVPrCI) (J := stabVPrI) (fn := Tryz.f115) (G := [(93, cmpPr_C cmpPrS), (121, insPr_C insPrS), (122, Con.fx [vi, vi, vi, .clo 93 []] cdv3q0 [] cdv3q0 (PIf.spec symMPrI))]) (cmpPr_k (insPr_k (GOk.cons ⟨Tryz.f122, body Tryz.f122, by kernel_rfl, by kernel_rfl, by kernel_rfl⟩ symMPr_ok (GOk.nil)))) (by kernel_rfl) (by kernel_rfl) (Lc := [(2, stabVPrL0Q (PIf.spec stabVPrL0I)), (9, stabVPrL2Q (PIf.spec stabVPrL2I)), (7, stabVPrL1Q (PIf.spec stabVPrL1I))]) (nh := []) (lcok (bs := [getL (body Tryz.f115) 0, getL (body Tryz.f115) 1, getL (body Tryz.f115) 2]) (by kernel_rfl) ⟨lone_ok (q := (2, stabVPrL0Q (PIf.spec stabVPrL0I))) (by kernel_rfl) stabVPrL0_ok, lone_ok (q := (7, stabVPrL1Q (PIf.spec stabVPrL1I))) (by kernel_rfl) stabVPrL1_ok, lone_ok (q := (9, stabVPrL2Q (PIf.spec stabVPrL2I))) (by kernel_rfl) stabVPrL2_ok, trivial⟩) ?_ (fun c0 x o y h => by obtain ⟨a, h1, rfl⟩ := Option.map_eq_some_iff.1 h; exact Option.map_eq_some_iff.2 ⟨a, h1, rfl⟩)
 rintro ⟨⟨c0, n, _, _⟩, ⟨d, _⟩⟩
 refine (stabVPr_raw ..).trans ?_
 show _ = ((stabVPrTr n d).val).map _
 unfold stabVPrTr
 repeat' (first|(refine bindP (fun _ =>?_); try dsimp only [selim, cond_true, cond_false, Bool.not_true, Bool.not_false, one, mI, cmpPrI, insPrI, symMPrI, stabVPrL0I, stabVPrL2I, stabVPrL1I]) | rfl)
theorem stabVPr_k {G : List (Nat × Con)} (h : GOk Tryz.prog gl G) : GOk Tryz.prog gl ((115, stabVPr_C stabVPrS) :: G) := GOk.cons ⟨Tryz.f115, body Tryz.f115, by kernel_rfl, by kernel_rfl, by kernel_rfl⟩ stabVPr_ok h
def stabWPrTr (d : List Pr) : T (List Pr) :=
 (stabVPrTr (Int.ofNat d.length) d).bind fun x0 =>
 .ret x0
@[reducible] def stabWPrCI : PIf (VhL [.s (.ownC 0), .clo 93 []] × OShL cdv3q0) (VhL [.s (.ownC 0)] × OShL cdv3q0) where
 α := List Pr
 tr x := stabWPrTr x.2.1
 enc x a := ((x.1.1, ()), (a, ()))
@[reducible] def stabWPrI : PIf (VhL [.s (.own 0), .clo 93 []] × OShL cdv3q0) (VhL [] × OShL cdv3q0) where
 α := List Pr
 tr x := stabWPrTr x.2.1
 enc x a := ((), (a, ()))
abbrev stabWPr_T : Type := VhL [.s (.own 0), .clo 93 []] × OShL cdv3q0 → Option (VhL [] × OShL cdv3q0)
noncomputable abbrev stabWPr_C (sp : stabWPr_T) : Con := Con.fx [.clo 93 []] cdv3q0 [] cdv3q0 sp
noncomputable abbrev stabWPrS : stabWPr_T := PIf.spec stabWPrI
theorem stabWPr_raw (p0 : cmpPr_T) (p1 : stabVPr_T) (c0 : Value) (d : List Pr) : runX Tryz.f92 [.clo 93 []] cdv3q0 [] cdv3q0 [(93, cmpPr_C p0), (115, stabVPr_C p1)] [] [] (((c0, (), ()), (d, ())) : VhL [.s (.ownC 0), .clo 93 []] × OShL cdv3q0) = ((p1 (((), Int.ofNat d.length, (), ()), d, ())).bind fun z => some ((c0, ()), z.2.1, ())) := by kernel_rfl
theorem stabWPr_ok : Sound Tryz.prog gl 92 (stabWPr_C stabWPrS) := by
 refine cxk (I := stabWPrCI) (J := stabWPrI) (fn := Tryz.f92) (G := [(93, cmpPr_C cmpPrS), (115, stabVPr_C stabVPrS)]) (cmpPr_k (stabVPr_k (GOk.nil))) (by kernel_rfl) (by kernel_rfl) (Lc := []) (nh := []) (noloopN (by kernel_rfl)) ?_ (fun c0 x o y h => by obtain ⟨a, h1, rfl⟩ := Option.map_eq_some_iff.1 h; exact Option.map_eq_some_iff.2 ⟨a, h1, rfl⟩)
 rintro ⟨⟨c0, _, _⟩, ⟨d, _⟩⟩
 refine (stabWPr_raw ..).trans ?_
 show _ = ((stabWPrTr d).val).map _
 unfold stabWPrTr
 repeat' (first|(refine bindP (fun _ =>?_); try dsimp only [selim, cond_true, cond_false, Bool.not_true, Bool.not_false, one, mI, cmpPrI, stabVPrI]) | rfl)
end Go.Ax.Cd
