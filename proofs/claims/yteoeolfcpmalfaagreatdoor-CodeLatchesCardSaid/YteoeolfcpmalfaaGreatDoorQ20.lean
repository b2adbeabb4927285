/- The package code by contracts (printed by wip/tools/con3.py). -/
import Derived.Test.YteoeolfcpmalfaaGreatDoorQ19
namespace Go.Ax.Cd
open Go.Proofs
set_option linter.unusedVariables false
set_option maxRecDepth 100000
abbrev cdv2q0 : List OSh := [.arr (.st .pr)]
@[reducible] def symRPrI (rec : List Pr → Int → Int → Int → T (List Pr)) : PIf (VhL [.s (.own 0), vi, vi, vi, .clo 93 []] × OShL cdv2q0) (VhL [] × OShL cdv2q0) where
  α := List Pr
  tr x := rec x.2.1 x.1.2.1 x.1.2.2.1 x.1.2.2.2.1
  enc x a := ((), (a, ()))
abbrev symPrL4vs : List Vh := [.s (.ownC 0), vi, vi, vi, .clo 93 [], vi, vi, vi, vi, vi]
abbrev symPrL4os : List OSh := cdv2q0
noncomputable abbrev symPrL4fin : Fin := (Fin.one 1 Tryz.f122.ntmps (.exit 8) [0, 1, 2, 3, 4, 18, 19, 20] [.s (.ownC 0), vi, vi, vi, .clo 93 [], vi, vi, vi] cdv2q0)
def symPrL4Step (v1 : Int) (v2 : Int) (v3 : Int) (v4 : Int) (v5 : Int) (v8 : Int) (d : List Pr) (st : Int × Int) : T ((Int × Int) ⊕ (Int)) :=
 let v6 := st.1
 let v7 := st.2
 bif decide (v6 < v7) then
 bif inR (w64 (v8 - w64 (sh64 (w64u (w64 (v6 + v7))) 1))) d.length then
 bif inR (w64 (sh64 (w64u (w64 (v6 + v7))) 1)) d.length then
 (cmpPrTr (rdE (EK.st SN.pr) d (w64 (v8 - w64 (sh64 (w64u (w64 (v6 + v7))) 1)))) (rdE (EK.st SN.pr) d (w64 (sh64 (w64u (w64 (v6 + v7))) 1)))).bind fun x0 =>
 bif !decide (x0 < 0) then
 .ret (Sum.inl (w64 (w64 (sh64 (w64u (w64 (v6 + v7))) 1) + 1), v7))
 else
 .ret (Sum.inl (v6, w64 (sh64 (w64u (w64 (v6 + v7))) 1)))
 else
 .bot
 else
 .bot
 else
 .ret (Sum.inr v6)
@[reducible] def symPrL4I : PIf (VhL symPrL4vs × OShL symPrL4os) symPrL4fin.Y where
  α := Int
  tr x := T.loop (symPrL4Step x.1.2.1 x.1.2.2.1 x.1.2.2.2.1 x.1.2.2.2.2.2.1 x.1.2.2.2.2.2.2.1 x.1.2.2.2.2.2.2.2.2.2.1 x.2.1) FU (x.1.2.2.2.2.2.2.2.1, x.1.2.2.2.2.2.2.2.2.1)
  enc x a := ((x.1.1, x.1.2.1, x.1.2.2.1, x.1.2.2.2.1, (), x.1.2.2.2.2.2.1, x.1.2.2.2.2.2.2.1, a, ()), (x.2.1, ()))
theorem symPrL4_raw (sp_cmpPr : cmpPr_T) (sp_rotPr : rotPr_T) (sp_symRPr : VhL [.s (.own 0), vi, vi, vi, .clo 93 []] × OShL cdv2q0 → Option (VhL [] × OShL cdv2q0)) (v0 : Value) (v1 : Int) (v2 : Int) (v3 : Int) (v4 : Int) (v5 : Int) (v6 : Int) (v7 : Int) (v8 : Int) (d : List Pr) : runW 1 Tryz.f122 4 [0, 1, 2, 3, 4, 18, 19, 20, 21, 22] symPrL4vs symPrL4os symPrL4fin [(93, cmpPr_C sp_cmpPr), (129, rotPr_C sp_rotPr), (122, Con.fx [vi, vi, vi, .clo 93 []] cdv2q0 [] cdv2q0 sp_symRPr)] [] [] (((v0, v1, v2, v3, (), v4, v5, v6, v7, v8, ()), (d, ())) : VhL symPrL4vs × OShL symPrL4os) = (bif decide (v6 < v7) then bif inR (w64 (v8 - w64 (sh64 (w64u (w64 (v6 + v7))) 1))) d.length then bif inR (w64 (sh64 (w64u (w64 (v6 + v7))) 1)) d.length then (sp_cmpPr ((rdE (EK.st SN.pr) d (w64 (v8 - w64 (sh64 (w64u (w64 (v6 + v7))) 1))), rdE (EK.st SN.pr) d (w64 (sh64 (w64u (w64 (v6 + v7))) 1)), ()), ())).bind fun val => bif !decide (val.1.1 < 0) then some (Sum.inl ((v0, v1, v2, v3, (), v4, v5, w64 (w64 (sh64 (w64u (w64 (v6 + v7))) 1) + 1), v7, v8, ()), d, ())) else some (Sum.inl ((v0, v1, v2, v3, (), v4, v5, v6, w64 (sh64 (w64u (w64 (v6 + v7))) 1), v8, ()), d, ())) else none else none
else some (Sum.inr ((v0, v1, v2, v3, (), v4, v5, v6, ()), d, ()))) := by kernel_rfl
theorem symPrL4_ok {rec : List Pr → Int → Int → Int → T (List Pr)} (symRPr_ok : Sound Tryz.prog gl 122 (Con.fx [vi, vi, vi, .clo 93 []] cdv2q0 [] cdv2q0 (PIf.spec (symRPrI rec)))) : LOk Tryz.prog gl 1 (LCon.of Tryz.f122.ntmps [0, 1, 2, 3, 4, 18, 19, 20, 21, 22] symPrL4vs symPrL4os symPrL4fin (PIf.spec symPrL4I)) (getL (body Tryz.f122) 4) := by
  refine lwk (Lc := []) (nh := []) (G := [(93, cmpPr_C (PIf.spec cmpPrI)), (129, rotPr_C (PIf.spec rotPrI)), (122, Con.fx [vi, vi, vi, .clo 93 []] cdv2q0 [] cdv2q0 (PIf.spec (symRPrI rec)))]) (GOk.cons cmpPr_g cmpPr_ok (GOk.cons rotPr_g rotPr_ok (GOk.cons ⟨Tryz.f122, body Tryz.f122, by kernel_rfl, by kernel_rfl, by kernel_rfl⟩ symRPr_ok (GOk.nil)))) (noloopN (by kernel_rfl)) (Fin.one_ok _ _ _ _) ?_
  rintro ⟨⟨v0, v1, v2, v3, _, v4, v5, v6, v7, v8, _⟩, ⟨d, _⟩⟩ y hy
  refine ⟨_, loopP_ok (eX := fun (st : Int × Int) => (let v6 := st.1; let v7 := st.2; ((v0, v1, v2, v3, (), v4, v5, v6, v7, v8, ()), (d, ())) : VhL symPrL4vs × OShL symPrL4os)) (body := symPrL4Step v1 v2 v3 v4 v5 v8 d) (fun st => ?_) _ (v6, v7) y hy⟩
  obtain ⟨v6, v7⟩ := st
  refine (symPrL4_raw (PIf.spec cmpPrI) (PIf.spec rotPrI) (PIf.spec (symRPrI rec)) v0 v1 v2 v3 v4 v5 v6 v7 v8 d).trans ?_
  unfold symPrL4Step
  repeat' (first | refine cond_outP (fun _ => ?_) (fun _ => ?_) | (refine bindP (fun _ => ?_); try dsimp only [selim, cond_true, cond_false, Bool.not_true, Bool.not_false, one, mI, cmpPrI, rotPrI, symRPrI]) | rfl)
abbrev symPrL3vs : List Vh := [.s (.ownC 0), vi, vi]
abbrev symPrL3os : List OSh := cdv2q0
noncomputable abbrev symPrL3fin : Fin := (Fin.one 1 Tryz.f122.ntmps (.exit 6) [0] [.s (.ownC 0)] cdv2q0)
def symPrL3Step (v1 : Int) (st : Int × List Pr) : T ((Int × List Pr) ⊕ (List Pr)) :=
 let v2 := st.1
 let d := st.2
 bif decide (v2 > v1) then
 bif inR (w64 (v2 - 1)) d.length then
 bif inR v2 d.length then
 bif inR v2 d.length then
 bif inR (w64 (v2 - 1)) (wrE (EK.st SN.pr) d v2 (rdE (EK.st SN.pr) d (w64 (v2 - 1)))).length then
 .ret (Sum.inl (w64 (v2 - 1), wrE (EK.st SN.pr) (wrE (EK.st SN.pr) d v2 (rdE (EK.st SN.pr) d (w64 (v2 - 1)))) (w64 (v2 - 1)) (rdE (EK.st SN.pr) d v2)))
 else
 .bot
 else
 .bot
 else
 .bot
 else
 .bot
 else
 .ret (Sum.inr d)
@[reducible] def symPrL3I : PIf (VhL symPrL3vs × OShL symPrL3os) symPrL3fin.Y where
  α := List Pr
  tr x := T.loop (symPrL3Step x.1.2.1) FU (x.1.2.2.1, x.2.1)
  enc x a := ((x.1.1, ()), (a, ()))
theorem symPrL3_raw (sp_cmpPr : cmpPr_T) (sp_rotPr : rotPr_T) (sp_symRPr : VhL [.s (.own 0), vi, vi, vi, .clo 93 []] × OShL cdv2q0 → Option (VhL [] × OShL cdv2q0)) (v0 : Value) (v1 : Int) (v2 : Int) (d : List Pr) : runW 1 Tryz.f122 3 [0, 14, 17] symPrL3vs symPrL3os symPrL3fin [(93, cmpPr_C sp_cmpPr), (129, rotPr_C sp_rotPr), (122, Con.fx [vi, vi, vi, .clo 93 []] cdv2q0 [] cdv2q0 sp_symRPr)] [] [] (((v0, v1, v2, ()), (d, ())) : VhL symPrL3vs × OShL symPrL3os) = (bif decide (v2 > v1) then bif inR (w64 (v2 - 1)) d.length then bif inR v2 d.length then bif inR v2 d.length then bif inR (w64 (v2 - 1)) (wrE (EK.st SN.pr) d v2 (rdE (EK.st SN.pr) d (w64 (v2 - 1)))).length then some (Sum.inl ((v0, v1, w64 (v2 - 1), ()), wrE (EK.st SN.pr) (wrE (EK.st SN.pr) d v2 (rdE (EK.st SN.pr) d (w64 (v2 - 1)))) (w64 (v2 - 1)) (rdE (EK.st SN.pr) d v2), ())) else none else none else none else none
else some (Sum.inr ((v0, ()), d, ()))) := by kernel_rfl
theorem symPrL3_ok {rec : List Pr → Int → Int → Int → T (List Pr)} (symRPr_ok : Sound Tryz.prog gl 122 (Con.fx [vi, vi, vi, .clo 93 []] cdv2q0 [] cdv2q0 (PIf.spec (symRPrI rec)))) : LOk Tryz.prog gl 1 (LCon.of Tryz.f122.ntmps [0, 14, 17] symPrL3vs symPrL3os symPrL3fin (PIf.spec symPrL3I)) (getL (body Tryz.f122) 3) := by
  refine lwk (Lc := []) (nh := []) (G := [(93, cmpPr_C (PIf.spec cmpPrI)), (129, rotPr_C (PIf.spec rotPrI)), (122, Con.fx [vi, vi, vi, .clo 93 []] cdv2q0 [] cdv2q0 (PIf.spec (symRPrI rec)))]) (GOk.cons cmpPr_g cmpPr_ok (GOk.cons rotPr_g rotPr_ok (GOk.cons ⟨Tryz.f122, body Tryz.f122, by kernel_rfl, by kernel_rfl, by kernel_rfl⟩ symRPr_ok (GOk.nil)))) (noloopN (by kernel_rfl)) (Fin.one_ok _ _ _ _) ?_
  rintro ⟨⟨v0, v1, v2, _⟩, ⟨d, _⟩⟩ y hy
  refine ⟨_, loopP_ok (eX := fun (st : Int × List Pr) => (let v2 := st.1; let d := st.2; ((v0, v1, v2, ()), (d, ())) : VhL symPrL3vs × OShL symPrL3os)) (body := symPrL3Step v1) (fun st => ?_) _ (v2, d) y hy⟩
  obtain ⟨v2, d⟩ := st
  refine (symPrL3_raw (PIf.spec cmpPrI) (PIf.spec rotPrI) (PIf.spec (symRPrI rec)) v0 v1 v2 d).trans ?_
  unfold symPrL3Step
  repeat' (first | refine cond_outP (fun _ => ?_) (fun _ => ?_) | rfl)
abbrev symPrL2vs : List Vh := [.s (.ownC 0), vi, .clo 93 [], vi, vi]
abbrev symPrL2os : List OSh := cdv2q0
noncomputable abbrev symPrL2fin : Fin := (Fin.one 1 Tryz.f122.ntmps (.exit 4) [0, 2, 14] [.s (.ownC 0), vi, vi] cdv2q0)
def symPrL2Step (v1 : Int) (d : List Pr) (st : Int × Int) : T ((Int × Int) ⊕ (Int)) :=
 let v2 := st.1
 let v3 := st.2
 bif decide (v2 < v3) then
 bif inR v1 d.length then
 bif inR (w64 (sh64 (w64u (w64 (v2 + v3))) 1)) d.length then
 (cmpPrTr (rdE (EK.st SN.pr) d v1) (rdE (EK.st SN.pr) d (w64 (sh64 (w64u (w64 (v2 + v3))) 1)))).bind fun x0 =>
 bif !decide (x0 < 0) then
 .ret (Sum.inl (w64 (w64 (sh64 (w64u (w64 (v2 + v3))) 1) + 1), v3))
 else
 .ret (Sum.inl (v2, w64 (sh64 (w64u (w64 (v2 + v3))) 1)))
 else
 .bot
 else
 .bot
 else
 .ret (Sum.inr v2)
@[reducible] def symPrL2I : PIf (VhL symPrL2vs × OShL symPrL2os) symPrL2fin.Y where
  α := Int
  tr x := T.loop (symPrL2Step x.1.2.1 x.2.1) FU (x.1.2.2.2.1, x.1.2.2.2.2.1)
  enc x a := ((x.1.1, x.1.2.1, a, ()), (x.2.1, ()))
theorem symPrL2_raw (sp_cmpPr : cmpPr_T) (sp_rotPr : rotPr_T) (sp_symRPr : VhL [.s (.own 0), vi, vi, vi, .clo 93 []] × OShL cdv2q0 → Option (VhL [] × OShL cdv2q0)) (v0 : Value) (v1 : Int) (v2 : Int) (v3 : Int) (d : List Pr) : runW 1 Tryz.f122 2 [0, 2, 4, 14, 15] symPrL2vs symPrL2os symPrL2fin [(93, cmpPr_C sp_cmpPr), (129, rotPr_C sp_rotPr), (122, Con.fx [vi, vi, vi, .clo 93 []] cdv2q0 [] cdv2q0 sp_symRPr)] [] [] (((v0, v1, (), v2, v3, ()), (d, ())) : VhL symPrL2vs × OShL symPrL2os) = (bif decide (v2 < v3) then bif inR v1 d.length then bif inR (w64 (sh64 (w64u (w64 (v2 + v3))) 1)) d.length then (sp_cmpPr ((rdE (EK.st SN.pr) d v1, rdE (EK.st SN.pr) d (w64 (sh64 (w64u (w64 (v2 + v3))) 1)), ()), ())).bind fun val => bif !decide (val.1.1 < 0) then some (Sum.inl ((v0, v1, (), w64 (w64 (sh64 (w64u (w64 (v2 + v3))) 1) + 1), v3, ()), d, ())) else some (Sum.inl ((v0, v1, (), v2, w64 (sh64 (w64u (w64 (v2 + v3))) 1), ()), d, ())) else none else none
else some (Sum.inr ((v0, v1, v2, ()), d, ()))) := by kernel_rfl
theorem symPrL2_ok {rec : List Pr → Int → Int → Int → T (List Pr)} (symRPr_ok : Sound Tryz.prog gl 122 (Con.fx [vi, vi, vi, .clo 93 []] cdv2q0 [] cdv2q0 (PIf.spec (symRPrI rec)))) : LOk Tryz.prog gl 1 (LCon.of Tryz.f122.ntmps [0, 2, 4, 14, 15] symPrL2vs symPrL2os symPrL2fin (PIf.spec symPrL2I)) (getL (body Tryz.f122) 2) := by
  refine lwk (Lc := []) (nh := []) (G := [(93, cmpPr_C (PIf.spec cmpPrI)), (129, rotPr_C (PIf.spec rotPrI)), (122, Con.fx [vi, vi, vi, .clo 93 []] cdv2q0 [] cdv2q0 (PIf.spec (symRPrI rec)))]) (GOk.cons cmpPr_g cmpPr_ok (GOk.cons rotPr_g rotPr_ok (GOk.cons ⟨Tryz.f122, body Tryz.f122, by kernel_rfl, by kernel_rfl, by kernel_rfl⟩ symRPr_ok (GOk.nil)))) (noloopN (by kernel_rfl)) (Fin.one_ok _ _ _ _) ?_
  rintro ⟨⟨v0, v1, _, v2, v3, _⟩, ⟨d, _⟩⟩ y hy
  refine ⟨_, loopP_ok (eX := fun (st : Int × Int) => (let v2 := st.1; let v3 := st.2; ((v0, v1, (), v2, v3, ()), (d, ())) : VhL symPrL2vs × OShL symPrL2os)) (body := symPrL2Step v1 d) (fun st => ?_) _ (v2, v3) y hy⟩
  obtain ⟨v2, v3⟩ := st
  refine (symPrL2_raw (PIf.spec cmpPrI) (PIf.spec rotPrI) (PIf.spec (symRPrI rec)) v0 v1 v2 v3 d).trans ?_
  unfold symPrL2Step
  repeat' (first | refine cond_outP (fun _ => ?_) (fun _ => ?_) | (refine bindP (fun _ => ?_); try dsimp only [selim, cond_true, cond_false, Bool.not_true, Bool.not_false, one, mI, cmpPrI, rotPrI, symRPrI]) | rfl)
abbrev symPrL1vs : List Vh := [.s (.ownC 0), vi, vi]
abbrev symPrL1os : List OSh := cdv2q0
noncomputable abbrev symPrL1fin : Fin := (Fin.one 1 Tryz.f122.ntmps (.exit 2) [0] [.s (.ownC 0)] cdv2q0)
def symPrL1Step (v1 : Int) (st : Int × List Pr) : T ((Int × List Pr) ⊕ (List Pr)) :=
 let v2 := st.1
 let d := st.2
 bif decide (v2 < w64 (v1 - 1)) then
 bif inR (w64 (v2 + 1)) d.length then
 bif inR v2 d.length then
 bif inR v2 d.length then
 bif inR (w64 (v2 + 1)) (wrE (EK.st SN.pr) d v2 (rdE (EK.st SN.pr) d (w64 (v2 + 1)))).length then
 .ret (Sum.inl (w64 (v2 + 1), wrE (EK.st SN.pr) (wrE (EK.st SN.pr) d v2 (rdE (EK.st SN.pr) d (w64 (v2 + 1)))) (w64 (v2 + 1)) (rdE (EK.st SN.pr) d v2)))
 else
 .bot
 else
 .bot
 else
 .bot
 else
 .bot
 else
 .ret (Sum.inr d)
@[reducible] def symPrL1I : PIf (VhL symPrL1vs × OShL symPrL1os) symPrL1fin.Y where
  α := List Pr
  tr x := T.loop (symPrL1Step x.1.2.1) FU (x.1.2.2.1, x.2.1)
  enc x a := ((x.1.1, ()), (a, ()))
theorem symPrL1_raw (sp_cmpPr : cmpPr_T) (sp_rotPr : rotPr_T) (sp_symRPr : VhL [.s (.own 0), vi, vi, vi, .clo 93 []] × OShL cdv2q0 → Option (VhL [] × OShL cdv2q0)) (v0 : Value) (v1 : Int) (v2 : Int) (d : List Pr) : runW 1 Tryz.f122 1 [0, 10, 13] symPrL1vs symPrL1os symPrL1fin [(93, cmpPr_C sp_cmpPr), (129, rotPr_C sp_rotPr), (122, Con.fx [vi, vi, vi, .clo 93 []] cdv2q0 [] cdv2q0 sp_symRPr)] [] [] (((v0, v1, v2, ()), (d, ())) : VhL symPrL1vs × OShL symPrL1os) = (bif decide (v2 < w64 (v1 - 1)) then bif inR (w64 (v2 + 1)) d.length then bif inR v2 d.length then bif inR v2 d.length then bif inR (w64 (v2 + 1)) (wrE (EK.st SN.pr) d v2 (rdE (EK.st SN.pr) d (w64 (v2 + 1)))).length then some (Sum.inl ((v0, v1, w64 (v2 + 1), ()), wrE (EK.st SN.pr) (wrE (EK.st SN.pr) d v2 (rdE (EK.st SN.pr) d (w64 (v2 + 1)))) (w64 (v2 + 1)) (rdE (EK.st SN.pr) d v2), ())) else none else none else none else none
else some (Sum.inr ((v0, ()), d, ()))) := by kernel_rfl
theorem symPrL1_ok {rec : List Pr → Int → Int → Int → T (List Pr)} (symRPr_ok : Sound Tryz.prog gl 122 (Con.fx [vi, vi, vi, .clo 93 []] cdv2q0 [] cdv2q0 (PIf.spec (symRPrI rec)))) : LOk Tryz.prog gl 1 (LCon.of Tryz.f122.ntmps [0, 10, 13] symPrL1vs symPrL1os symPrL1fin (PIf.spec symPrL1I)) (getL (body Tryz.f122) 1) := by
  refine lwk (Lc := []) (nh := []) (G := [(93, cmpPr_C (PIf.spec cmpPrI)), (129, rotPr_C (PIf.spec rotPrI)), (122, Con.fx [vi, vi, vi, .clo 93 []] cdv2q0 [] cdv2q0 (PIf.spec (symRPrI rec)))]) (GOk.cons cmpPr_g cmpPr_ok (GOk.cons rotPr_g rotPr_ok (GOk.cons ⟨Tryz.f122, body Tryz.f122, by kernel_rfl, by kernel_rfl, by kernel_rfl⟩ symRPr_ok (GOk.nil)))) (noloopN (by kernel_rfl)) (Fin.one_ok _ _ _ _) ?_
  rintro ⟨⟨v0, v1, v2, _⟩, ⟨d, _⟩⟩ y hy
  refine ⟨_, loopP_ok (eX := fun (st : Int × List Pr) => (let v2 := st.1; let d := st.2; ((v0, v1, v2, ()), (d, ())) : VhL symPrL1vs × OShL symPrL1os)) (body := symPrL1Step v1) (fun st => ?_) _ (v2, d) y hy⟩
  obtain ⟨v2, d⟩ := st
  refine (symPrL1_raw (PIf.spec cmpPrI) (PIf.spec rotPrI) (PIf.spec (symRPrI rec)) v0 v1 v2 d).trans ?_
  unfold symPrL1Step
  repeat' (first | refine cond_outP (fun _ => ?_) (fun _ => ?_) | rfl)
abbrev symPrL0vs : List Vh := [.s (.ownC 0), vi, .clo 93 [], vi, vi]
abbrev symPrL0os : List OSh := cdv2q0
noncomputable abbrev symPrL0fin : Fin := (Fin.one 1 Tryz.f122.ntmps (.exit 0) [0, 1, 10] [.s (.ownC 0), vi, vi] cdv2q0)
def symPrL0Step (v1 : Int) (d : List Pr) (st : Int × Int) : T ((Int × Int) ⊕ (Int)) :=
 let v2 := st.1
 let v3 := st.2
 bif decide (v2 < v3) then
 bif inR (w64 (sh64 (w64u (w64 (v2 + v3))) 1)) d.length then
 bif inR v1 d.length then
 (cmpPrTr (rdE (EK.st SN.pr) d (w64 (sh64 (w64u (w64 (v2 + v3))) 1))) (rdE (EK.st SN.pr) d v1)).bind fun x0 =>
 bif decide (x0 < 0) then
 .ret (Sum.inl (w64 (w64 (sh64 (w64u (w64 (v2 + v3))) 1) + 1), v3))
 else
 .ret (Sum.inl (v2, w64 (sh64 (w64u (w64 (v2 + v3))) 1)))
 else
 .bot
 else
 .bot
 else
 .ret (Sum.inr v2)
@[reducible] def symPrL0I : PIf (VhL symPrL0vs × OShL symPrL0os) symPrL0fin.Y where
  α := Int
  tr x := T.loop (symPrL0Step x.1.2.1 x.2.1) FU (x.1.2.2.2.1, x.1.2.2.2.2.1)
  enc x a := ((x.1.1, x.1.2.1, a, ()), (x.2.1, ()))
theorem symPrL0_raw (sp_cmpPr : cmpPr_T) (sp_rotPr : rotPr_T) (sp_symRPr : VhL [.s (.own 0), vi, vi, vi, .clo 93 []] × OShL cdv2q0 → Option (VhL [] × OShL cdv2q0)) (v0 : Value) (v1 : Int) (v2 : Int) (v3 : Int) (d : List Pr) : runW 1 Tryz.f122 0 [0, 1, 4, 10, 11] symPrL0vs symPrL0os symPrL0fin [(93, cmpPr_C sp_cmpPr), (129, rotPr_C sp_rotPr), (122, Con.fx [vi, vi, vi, .clo 93 []] cdv2q0 [] cdv2q0 sp_symRPr)] [] [] (((v0, v1, (), v2, v3, ()), (d, ())) : VhL symPrL0vs × OShL symPrL0os) = (bif decide (v2 < v3) then bif inR (w64 (sh64 (w64u (w64 (v2 + v3))) 1)) d.length then bif inR v1 d.length then (sp_cmpPr ((rdE (EK.st SN.pr) d (w64 (sh64 (w64u (w64 (v2 + v3))) 1)), rdE (EK.st SN.pr) d v1, ()), ())).bind fun val => bif decide (val.1.1 < 0) then some (Sum.inl ((v0, v1, (), w64 (w64 (sh64 (w64u (w64 (v2 + v3))) 1) + 1), v3, ()), d, ())) else some (Sum.inl ((v0, v1, (), v2, w64 (sh64 (w64u (w64 (v2 + v3))) 1), ()), d, ())) else none else none
else some (Sum.inr ((v0, v1, v2, ()), d, ()))) := by kernel_rfl
theorem symPrL0_ok {rec : List Pr → Int → Int → Int → T (List Pr)} (symRPr_ok : Sound Tryz.prog gl 122 (Con.fx [vi, vi, vi, .clo 93 []] cdv2q0 [] cdv2q0 (PIf.spec (symRPrI rec)))) : LOk Tryz.prog gl 1 (LCon.of Tryz.f122.ntmps [0, 1, 4, 10, 11] symPrL0vs symPrL0os symPrL0fin (PIf.spec symPrL0I)) (getL (body Tryz.f122) 0) := by
  refine lwk (Lc := []) (nh := []) (G := [(93, cmpPr_C (PIf.spec cmpPrI)), (129, rotPr_C (PIf.spec rotPrI)), (122, Con.fx [vi, vi, vi, .clo 93 []] cdv2q0 [] cdv2q0 (PIf.spec (symRPrI rec)))]) (GOk.cons cmpPr_g cmpPr_ok (GOk.cons rotPr_g rotPr_ok (GOk.cons ⟨Tryz.f122, body Tryz.f122, by kernel_rfl, by kernel_rfl, by kernel_rfl⟩ symRPr_ok (GOk.nil)))) (noloopN (by kernel_rfl)) (Fin.one_ok _ _ _ _) ?_
  rintro ⟨⟨v0, v1, _, v2, v3, _⟩, ⟨d, _⟩⟩ y hy
  refine ⟨_, loopP_ok (eX := fun (st : Int × Int) => (let v2 := st.1; let v3 := st.2; ((v0, v1, (), v2, v3, ()), (d, ())) : VhL symPrL0vs × OShL symPrL0os)) (body := symPrL0Step v1 d) (fun st => ?_) _ (v2, v3) y hy⟩
  obtain ⟨v2, v3⟩ := st
  refine (symPrL0_raw (PIf.spec cmpPrI) (PIf.spec rotPrI) (PIf.spec (symRPrI rec)) v0 v1 v2 v3 d).trans ?_
  unfold symPrL0Step
  repeat' (first | refine cond_outP (fun _ => ?_) (fun _ => ?_) | (refine bindP (fun _ => ?_); try dsimp only [selim, cond_true, cond_false, Bool.not_true, Bool.not_false, one, mI, cmpPrI, rotPrI, symRPrI]) | rfl)
def symPrTr (rec : List Pr → Int → Int → Int → T (List Pr)) (a : Int) (m : Int) (b : Int) (d : List Pr) : T (List Pr) :=
 bif w64 (m - a) == 1 then
 (T.loop (symPrL0Step a d) 4611686018427387904 (m, b)).bind fun x0 =>
 (T.loop (symPrL1Step x0) 4611686018427387904 (a, d)).bind fun x1 =>
 .ret x1
 else
 bif w64 (b - m) == 1 then
 (T.loop (symPrL2Step m d) 4611686018427387904 (a, m)).bind fun x0 =>
 (T.loop (symPrL3Step x0) 4611686018427387904 (m, d)).bind fun x1 =>
 .ret x1
 else
 bif decide (m > w64 (sh64 (w64u (w64 (a + b))) 1)) then
 (T.loop (symPrL4Step a m b (w64 (sh64 (w64u (w64 (a + b))) 1)) (w64 (w64 (sh64 (w64u (w64 (a + b))) 1) + m)) (w64 (w64 (w64 (sh64 (w64u (w64 (a + b))) 1) + m) - 1)) d) 4611686018427387904 (w64 (w64 (w64 (sh64 (w64u (w64 (a + b))) 1) + m) - b), w64 (sh64 (w64u (w64 (a + b))) 1))).bind fun x0 =>
 bif decide (x0 < m) then
 bif decide (m < w64 (w64 (w64 (sh64 (w64u (w64 (a + b))) 1) + m) - x0)) then
 (rotPrTr x0 m (w64 (w64 (w64 (sh64 (w64u (w64 (a + b))) 1) + m) - x0)) d).bind fun x1 =>
 bif decide (a < x0) then
 bif decide (x0 < w64 (sh64 (w64u (w64 (a + b))) 1)) then
 (rec x1 a x0 (w64 (sh64 (w64u (w64 (a + b))) 1))).bind fun x2 =>
 bif decide (w64 (sh64 (w64u (w64 (a + b))) 1) < w64 (w64 (w64 (sh64 (w64u (w64 (a + b))) 1) + m) - x0)) then
 bif decide (w64 (w64 (w64 (sh64 (w64u (w64 (a + b))) 1) + m) - x0) < b) then
 (rec x2 (w64 (sh64 (w64u (w64 (a + b))) 1)) (w64 (w64 (w64 (sh64 (w64u (w64 (a + b))) 1) + m) - x0)) b).bind fun x3 =>
 .ret x3
 else
 .ret x2
 else
 .ret x2
 else
 bif decide (w64 (sh64 (w64u (w64 (a + b))) 1) < w64 (w64 (w64 (sh64 (w64u (w64 (a + b))) 1) + m) - x0)) then
 bif decide (w64 (w64 (w64 (sh64 (w64u (w64 (a + b))) 1) + m) - x0) < b) then
 (rec x1 (w64 (sh64 (w64u (w64 (a + b))) 1)) (w64 (w64 (w64 (sh64 (w64u (w64 (a + b))) 1) + m) - x0)) b).bind fun x2 =>
 .ret x2
 else
 .ret x1
 else
 .ret x1
 else
 bif decide (w64 (sh64 (w64u (w64 (a + b))) 1) < w64 (w64 (w64 (sh64 (w64u (w64 (a + b))) 1) + m) - x0)) then
 bif decide (w64 (w64 (w64 (sh64 (w64u (w64 (a + b))) 1) + m) - x0) < b) then
 (rec x1 (w64 (sh64 (w64u (w64 (a + b))) 1)) (w64 (w64 (w64 (sh64 (w64u (w64 (a + b))) 1) + m) - x0)) b).bind fun x2 =>
 .ret x2
 else
 .ret x1
 else
 .ret x1
 else
 bif decide (a < x0) then
 bif decide (x0 < w64 (sh64 (w64u (w64 (a + b))) 1)) then
 (rec d a x0 (w64 (sh64 (w64u (w64 (a + b))) 1))).bind fun x1 =>
 bif decide (w64 (sh64 (w64u (w64 (a + b))) 1) < w64 (w64 (w64 (sh64 (w64u (w64 (a + b))) 1) + m) - x0)) then
 bif decide (w64 (w64 (w64 (sh64 (w64u (w64 (a + b))) 1) + m) - x0) < b) then
 (rec x1 (w64 (sh64 (w64u (w64 (a + b))) 1)) (w64 (w64 (w64 (sh64 (w64u (w64 (a + b))) 1) + m) - x0)) b).bind fun x2 =>
 .ret x2
 else
 .ret x1
 else
 .ret x1
 else
 bif decide (w64 (sh64 (w64u (w64 (a + b))) 1) < w64 (w64 (w64 (sh64 (w64u (w64 (a + b))) 1) + m) - x0)) then
 bif decide (w64 (w64 (w64 (sh64 (w64u (w64 (a + b))) 1) + m) - x0) < b) then
 (rec d (w64 (sh64 (w64u (w64 (a + b))) 1)) (w64 (w64 (w64 (sh64 (w64u (w64 (a + b))) 1) + m) - x0)) b).bind fun x1 =>
 .ret x1
 else
 .ret d
 else
 .ret d
 else
 bif decide (w64 (sh64 (w64u (w64 (a + b))) 1) < w64 (w64 (w64 (sh64 (w64u (w64 (a + b))) 1) + m) - x0)) then
 bif decide (w64 (w64 (w64 (sh64 (w64u (w64 (a + b))) 1) + m) - x0) < b) then
 (rec d (w64 (sh64 (w64u (w64 (a + b))) 1)) (w64 (w64 (w64 (sh64 (w64u (w64 (a + b))) 1) + m) - x0)) b).bind fun x1 =>
 .ret x1
 else
 .ret d
 else
 .ret d
 else
 bif decide (a < x0) then
 bif decide (x0 < w64 (sh64 (w64u (w64 (a + b))) 1)) then
 (rec d a x0 (w64 (sh64 (w64u (w64 (a + b))) 1))).bind fun x1 =>
 bif decide (w64 (sh64 (w64u (w64 (a + b))) 1) < w64 (w64 (w64 (sh64 (w64u (w64 (a + b))) 1) + m) - x0)) then
 bif decide (w64 (w64 (w64 (sh64 (w64u (w64 (a + b))) 1) + m) - x0) < b) then
 (rec x1 (w64 (sh64 (w64u (w64 (a + b))) 1)) (w64 (w64 (w64 (sh64 (w64u (w64 (a + b))) 1) + m) - x0)) b).bind fun x2 =>
 .ret x2
 else
 .ret x1
 else
 .ret x1
 else
 bif decide (w64 (sh64 (w64u (w64 (a + b))) 1) < w64 (w64 (w64 (sh64 (w64u (w64 (a + b))) 1) + m) - x0)) then
 bif decide (w64 (w64 (w64 (sh64 (w64u (w64 (a + b))) 1) + m) - x0) < b) then
 (rec d (w64 (sh64 (w64u (w64 (a + b))) 1)) (w64 (w64 (w64 (sh64 (w64u (w64 (a + b))) 1) + m) - x0)) b).bind fun x1 =>
 .ret x1
 else
 .ret d
 else
 .ret d
 else
 bif decide (w64 (sh64 (w64u (w64 (a + b))) 1) < w64 (w64 (w64 (sh64 (w64u (w64 (a + b))) 1) + m) - x0)) then
 bif decide (w64 (w64 (w64 (sh64 (w64u (w64 (a + b))) 1) + m) - x0) < b) then
 (rec d (w64 (sh64 (w64u (w64 (a + b))) 1)) (w64 (w64 (w64 (sh64 (w64u (w64 (a + b))) 1) + m) - x0)) b).bind fun x1 =>
 .ret x1
 else
 .ret d
 else
 .ret d
 else
 (T.loop (symPrL4Step a m b (w64 (sh64 (w64u (w64 (a + b))) 1)) (w64 (w64 (sh64 (w64u (w64 (a + b))) 1) + m)) (w64 (w64 (w64 (sh64 (w64u (w64 (a + b))) 1) + m) - 1)) d) 4611686018427387904 (a, m)).bind fun x0 =>
 bif decide (x0 < m) then
 bif decide (m < w64 (w64 (w64 (sh64 (w64u (w64 (a + b))) 1) + m) - x0)) then
 (rotPrTr x0 m (w64 (w64 (w64 (sh64 (w64u (w64 (a + b))) 1) + m) - x0)) d).bind fun x1 =>
 bif decide (a < x0) then
 bif decide (x0 < w64 (sh64 (w64u (w64 (a + b))) 1)) then
 (rec x1 a x0 (w64 (sh64 (w64u (w64 (a + b))) 1))).bind fun x2 =>
 bif decide (w64 (sh64 (w64u (w64 (a + b))) 1) < w64 (w64 (w64 (sh64 (w64u (w64 (a + b))) 1) + m) - x0)) then
 bif decide (w64 (w64 (w64 (sh64 (w64u (w64 (a + b))) 1) + m) - x0) < b) then
 (rec x2 (w64 (sh64 (w64u (w64 (a + b))) 1)) (w64 (w64 (w64 (sh64 (w64u (w64 (a + b))) 1) + m) - x0)) b).bind fun x3 =>
 .ret x3
 else
 .ret x2
 else
 .ret x2
 else
 bif decide (w64 (sh64 (w64u (w64 (a + b))) 1) < w64 (w64 (w64 (sh64 (w64u (w64 (a + b))) 1) + m) - x0)) then
 bif decide (w64 (w64 (w64 (sh64 (w64u (w64 (a + b))) 1) + m) - x0) < b) then
 (rec x1 (w64 (sh64 (w64u (w64 (a + b))) 1)) (w64 (w64 (w64 (sh64 (w64u (w64 (a + b))) 1) + m) - x0)) b).bind fun x2 =>
 .ret x2
 else
 .ret x1
 else
 .ret x1
 else
 bif decide (w64 (sh64 (w64u (w64 (a + b))) 1) < w64 (w64 (w64 (sh64 (w64u (w64 (a + b))) 1) + m) - x0)) then
 bif decide (w64 (w64 (w64 (sh64 (w64u (w64 (a + b))) 1) + m) - x0) < b) then
 (rec x1 (w64 (sh64 (w64u (w64 (a + b))) 1)) (w64 (w64 (w64 (sh64 (w64u (w64 (a + b))) 1) + m) - x0)) b).bind fun x2 =>
 .ret x2
 else
 .ret x1
 else
 .ret x1
 else
 bif decide (a < x0) then
 bif decide (x0 < w64 (sh64 (w64u (w64 (a + b))) 1)) then
 (rec d a x0 (w64 (sh64 (w64u (w64 (a + b))) 1))).bind fun x1 =>
 bif decide (w64 (sh64 (w64u (w64 (a + b))) 1) < w64 (w64 (w64 (sh64 (w64u (w64 (a + b))) 1) + m) - x0)) then
 bif decide (w64 (w64 (w64 (sh64 (w64u (w64 (a + b))) 1) + m) - x0) < b) then
 (rec x1 (w64 (sh64 (w64u (w64 (a + b))) 1)) (w64 (w64 (w64 (sh64 (w64u (w64 (a + b))) 1) + m) - x0)) b).bind fun x2 =>
 .ret x2
 else
 .ret x1
 else
 .ret x1
 else
 bif decide (w64 (sh64 (w64u (w64 (a + b))) 1) < w64 (w64 (w64 (sh64 (w64u (w64 (a + b))) 1) + m) - x0)) then
 bif decide (w64 (w64 (w64 (sh64 (w64u (w64 (a + b))) 1) + m) - x0) < b) then
 (rec d (w64 (sh64 (w64u (w64 (a + b))) 1)) (w64 (w64 (w64 (sh64 (w64u (w64 (a + b))) 1) + m) - x0)) b).bind fun x1 =>
 .ret x1
 else
 .ret d
 else
 .ret d
 else
 bif decide (w64 (sh64 (w64u (w64 (a + b))) 1) < w64 (w64 (w64 (sh64 (w64u (w64 (a + b))) 1) + m) - x0)) then
 bif decide (w64 (w64 (w64 (sh64 (w64u (w64 (a + b))) 1) + m) - x0) < b) then
 (rec d (w64 (sh64 (w64u (w64 (a + b))) 1)) (w64 (w64 (w64 (sh64 (w64u (w64 (a + b))) 1) + m) - x0)) b).bind fun x1 =>
 .ret x1
 else
 .ret d
 else
 .ret d
 else
 bif decide (a < x0) then
 bif decide (x0 < w64 (sh64 (w64u (w64 (a + b))) 1)) then
 (rec d a x0 (w64 (sh64 (w64u (w64 (a + b))) 1))).bind fun x1 =>
 bif decide (w64 (sh64 (w64u (w64 (a + b))) 1) < w64 (w64 (w64 (sh64 (w64u (w64 (a + b))) 1) + m) - x0)) then
 bif decide (w64 (w64 (w64 (sh64 (w64u (w64 (a + b))) 1) + m) - x0) < b) then
 (rec x1 (w64 (sh64 (w64u (w64 (a + b))) 1)) (w64 (w64 (w64 (sh64 (w64u (w64 (a + b))) 1) + m) - x0)) b).bind fun x2 =>
 .ret x2
 else
 .ret x1
 else
 .ret x1
 else
 bif decide (w64 (sh64 (w64u (w64 (a + b))) 1) < w64 (w64 (w64 (sh64 (w64u (w64 (a + b))) 1) + m) - x0)) then
 bif decide (w64 (w64 (w64 (sh64 (w64u (w64 (a + b))) 1) + m) - x0) < b) then
 (rec d (w64 (sh64 (w64u (w64 (a + b))) 1)) (w64 (w64 (w64 (sh64 (w64u (w64 (a + b))) 1) + m) - x0)) b).bind fun x1 =>
 .ret x1
 else
 .ret d
 else
 .ret d
 else
 bif decide (w64 (sh64 (w64u (w64 (a + b))) 1) < w64 (w64 (w64 (sh64 (w64u (w64 (a + b))) 1) + m) - x0)) then
 bif decide (w64 (w64 (w64 (sh64 (w64u (w64 (a + b))) 1) + m) - x0) < b) then
 (rec d (w64 (sh64 (w64u (w64 (a + b))) 1)) (w64 (w64 (w64 (sh64 (w64u (w64 (a + b))) 1) + m) - x0)) b).bind fun x1 =>
 .ret x1
 else
 .ret d
 else
 .ret d
@[reducible] def symPrCI (rec : List Pr → Int → Int → Int → T (List Pr)) : PIf (VhL [.s (.ownC 0), vi, vi, vi, .clo 93 []] × OShL cdv2q0) (VhL [.s (.ownC 0)] × OShL cdv2q0) where
  α := List Pr
  tr x := (symPrTr rec) x.1.2.1 x.1.2.2.1 x.1.2.2.2.1 x.2.1
  enc x a := ((x.1.1, ()), (a, ()))
@[reducible] def symPrI (rec : List Pr → Int → Int → Int → T (List Pr)) : PIf (VhL [.s (.own 0), vi, vi, vi, .clo 93 []] × OShL cdv2q0) (VhL [] × OShL cdv2q0) where
  α := List Pr
  tr x := (symPrTr rec) x.1.2.1 x.1.2.2.1 x.1.2.2.2.1 x.2.1
  enc x a := ((), (a, ()))
abbrev symPr_T : Type := VhL [.s (.own 0), vi, vi, vi, .clo 93 []] × OShL cdv2q0 → Option (VhL [] × OShL cdv2q0)
noncomputable abbrev symPr_C (sp : symPr_T) : Con := Con.fx [vi, vi, vi, .clo 93 []] cdv2q0 [] cdv2q0 sp
theorem symPr_raw (sp_cmpPr : cmpPr_T) (sp_rotPr : rotPr_T) (sp_symRPr : VhL [.s (.own 0), vi, vi, vi, .clo 93 []] × OShL cdv2q0 → Option (VhL [] × OShL cdv2q0)) (sp_symPrL0 : VhL symPrL0vs × OShL symPrL0os → Option symPrL0fin.Y) (sp_symPrL1 : VhL symPrL1vs × OShL symPrL1os → Option symPrL1fin.Y) (sp_symPrL2 : VhL symPrL2vs × OShL symPrL2os → Option symPrL2fin.Y) (sp_symPrL3 : VhL symPrL3vs × OShL symPrL3os → Option symPrL3fin.Y) (sp_symPrL4 : VhL symPrL4vs × OShL symPrL4os → Option symPrL4fin.Y) (c0 : Value) (a : Int) (m : Int) (b : Int) (d : List Pr) : runX Tryz.f122 [vi, vi, vi, .clo 93 []] cdv2q0 [] cdv2q0 [(93, cmpPr_C sp_cmpPr), (129, rotPr_C sp_rotPr), (122, Con.fx [vi, vi, vi, .clo 93 []] cdv2q0 [] cdv2q0 sp_symRPr)] [(3, LCon.of Tryz.f122.ntmps [0, 1, 4, 10, 11] symPrL0vs symPrL0os symPrL0fin sp_symPrL0), (9, LCon.of Tryz.f122.ntmps [0, 10, 13] symPrL1vs symPrL1os symPrL1fin sp_symPrL1), (15, LCon.of Tryz.f122.ntmps [0, 2, 4, 14, 15] symPrL2vs symPrL2os symPrL2fin sp_symPrL2), (21, LCon.of Tryz.f122.ntmps [0, 14, 17] symPrL3vs symPrL3os symPrL3fin sp_symPrL3), (33, LCon.of Tryz.f122.ntmps [0, 1, 2, 3, 4, 18, 19, 20, 21, 22] symPrL4vs symPrL4os symPrL4fin sp_symPrL4)] [] (((c0, a, m, b, (), ()), (d, ())) : VhL [.s (.ownC 0), vi, vi, vi, .clo 93 []] × OShL cdv2q0) = (bif w64 (m - a) == 1 then (sp_symPrL0 ((c0, a, (), m, b, ()), d, ())).bind fun val => (sp_symPrL1 ((val.1.1, val.1.2.2.1, val.1.2.1, ()), val.2.1, ())).bind fun val => some ((val.1.1, ()), val.2.1, ())
else
  bif w64 (b - m) == 1 then (sp_symPrL2 ((c0, m, (), a, m, ()), d, ())).bind fun val => (sp_symPrL3 ((val.1.1, val.1.2.2.1, val.1.2.1, ()), val.2.1, ())).bind fun val => some ((val.1.1, ()), val.2.1, ())
  else
    bif decide (m > w64 (sh64 (w64u (w64 (a + b))) 1)) then
      (sp_symPrL4
            ((c0, a, m, b, (), w64 (sh64 (w64u (w64 (a + b))) 1), w64 (w64 (sh64 (w64u (w64 (a + b))) 1) + m), w64 (w64 (w64 (sh64 (w64u (w64 (a + b))) 1) + m) - b), w64 (sh64 (w64u (w64 (a + b))) 1),
                w64 (w64 (w64 (sh64 (w64u (w64 (a + b))) 1) + m) - 1), ()),
              d, ())).bind
        fun val =>
        bif decide (val.1.2.2.2.2.2.2.2.1 < val.1.2.2.1) then
          bif decide (val.1.2.2.1 < w64 (val.1.2.2.2.2.2.2.1 - val.1.2.2.2.2.2.2.2.1)) then
            (sp_rotPr (((), val.1.2.2.2.2.2.2.2.1, val.1.2.2.1, w64 (val.1.2.2.2.2.2.2.1 - val.1.2.2.2.2.2.2.2.1), (), ()), val.2.1, ())).bind fun val_1 =>
              bif decide (val.1.2.1 < val.1.2.2.2.2.2.2.2.1) then
                bif decide (val.1.2.2.2.2.2.2.2.1 < val.1.2.2.2.2.2.1) then
                  (sp_symRPr (((), val.1.2.1, val.1.2.2.2.2.2.2.2.1, val.1.2.2.2.2.2.1, (), ()), val_1.2.1, ())).bind fun val_2 =>
                    bif decide (val.1.2.2.2.2.2.1 < w64 (val.1.2.2.2.2.2.2.1 - val.1.2.2.2.2.2.2.2.1)) then
                      bif decide (w64 (val.1.2.2.2.2.2.2.1 - val.1.2.2.2.2.2.2.2.1) < val.1.2.2.2.1) then
                        (sp_symRPr (((), val.1.2.2.2.2.2.1, w64 (val.1.2.2.2.2.2.2.1 - val.1.2.2.2.2.2.2.2.1), val.1.2.2.2.1, (), ()), val_2.2.1, ())).bind fun val_3 =>
                          some ((val.1.1, ()), val_3.2.1, ())
                      else some ((val.1.1, ()), val_2.2.1, ())
                    else some ((val.1.1, ()), val_2.2.1, ())
                else
                  bif decide (val.1.2.2.2.2.2.1 < w64 (val.1.2.2.2.2.2.2.1 - val.1.2.2.2.2.2.2.2.1)) then
                    bif decide (w64 (val.1.2.2.2.2.2.2.1 - val.1.2.2.2.2.2.2.2.1) < val.1.2.2.2.1) then
                      (sp_symRPr (((), val.1.2.2.2.2.2.1, w64 (val.1.2.2.2.2.2.2.1 - val.1.2.2.2.2.2.2.2.1), val.1.2.2.2.1, (), ()), val_1.2.1, ())).bind fun val_2 =>
                        some ((val.1.1, ()), val_2.2.1, ())
                    else some ((val.1.1, ()), val_1.2.1, ())
                  else some ((val.1.1, ()), val_1.2.1, ())
              else
                bif decide (val.1.2.2.2.2.2.1 < w64 (val.1.2.2.2.2.2.2.1 - val.1.2.2.2.2.2.2.2.1)) then
                  bif decide (w64 (val.1.2.2.2.2.2.2.1 - val.1.2.2.2.2.2.2.2.1) < val.1.2.2.2.1) then
                    (sp_symRPr (((), val.1.2.2.2.2.2.1, w64 (val.1.2.2.2.2.2.2.1 - val.1.2.2.2.2.2.2.2.1), val.1.2.2.2.1, (), ()), val_1.2.1, ())).bind fun val_2 =>
                      some ((val.1.1, ()), val_2.2.1, ())
                  else some ((val.1.1, ()), val_1.2.1, ())
                else some ((val.1.1, ()), val_1.2.1, ())
          else
            bif decide (val.1.2.1 < val.1.2.2.2.2.2.2.2.1) then
              bif decide (val.1.2.2.2.2.2.2.2.1 < val.1.2.2.2.2.2.1) then
                (sp_symRPr (((), val.1.2.1, val.1.2.2.2.2.2.2.2.1, val.1.2.2.2.2.2.1, (), ()), val.2.1, ())).bind fun val_1 =>
                  bif decide (val.1.2.2.2.2.2.1 < w64 (val.1.2.2.2.2.2.2.1 - val.1.2.2.2.2.2.2.2.1)) then
                    bif decide (w64 (val.1.2.2.2.2.2.2.1 - val.1.2.2.2.2.2.2.2.1) < val.1.2.2.2.1) then
                      (sp_symRPr (((), val.1.2.2.2.2.2.1, w64 (val.1.2.2.2.2.2.2.1 - val.1.2.2.2.2.2.2.2.1), val.1.2.2.2.1, (), ()), val_1.2.1, ())).bind fun val_2 =>
                        some ((val.1.1, ()), val_2.2.1, ())
                    else some ((val.1.1, ()), val_1.2.1, ())
                  else some ((val.1.1, ()), val_1.2.1, ())
              else
                bif decide (val.1.2.2.2.2.2.1 < w64 (val.1.2.2.2.2.2.2.1 - val.1.2.2.2.2.2.2.2.1)) then
                  bif decide (w64 (val.1.2.2.2.2.2.2.1 - val.1.2.2.2.2.2.2.2.1) < val.1.2.2.2.1) then
                    (sp_symRPr (((), val.1.2.2.2.2.2.1, w64 (val.1.2.2.2.2.2.2.1 - val.1.2.2.2.2.2.2.2.1), val.1.2.2.2.1, (), ()), val.2.1, ())).bind fun val_1 =>
                      some ((val.1.1, ()), val_1.2.1, ())
                  else some ((val.1.1, ()), val.2.1, ())
                else some ((val.1.1, ()), val.2.1, ())
            else
              bif decide (val.1.2.2.2.2.2.1 < w64 (val.1.2.2.2.2.2.2.1 - val.1.2.2.2.2.2.2.2.1)) then
                bif decide (w64 (val.1.2.2.2.2.2.2.1 - val.1.2.2.2.2.2.2.2.1) < val.1.2.2.2.1) then
                  (sp_symRPr (((), val.1.2.2.2.2.2.1, w64 (val.1.2.2.2.2.2.2.1 - val.1.2.2.2.2.2.2.2.1), val.1.2.2.2.1, (), ()), val.2.1, ())).bind fun val_1 =>
                    some ((val.1.1, ()), val_1.2.1, ())
                else some ((val.1.1, ()), val.2.1, ())
              else some ((val.1.1, ()), val.2.1, ())
        else
          bif decide (val.1.2.1 < val.1.2.2.2.2.2.2.2.1) then
            bif decide (val.1.2.2.2.2.2.2.2.1 < val.1.2.2.2.2.2.1) then
              (sp_symRPr (((), val.1.2.1, val.1.2.2.2.2.2.2.2.1, val.1.2.2.2.2.2.1, (), ()), val.2.1, ())).bind fun val_1 =>
                bif decide (val.1.2.2.2.2.2.1 < w64 (val.1.2.2.2.2.2.2.1 - val.1.2.2.2.2.2.2.2.1)) then
                  bif decide (w64 (val.1.2.2.2.2.2.2.1 - val.1.2.2.2.2.2.2.2.1) < val.1.2.2.2.1) then
                    (sp_symRPr (((), val.1.2.2.2.2.2.1, w64 (val.1.2.2.2.2.2.2.1 - val.1.2.2.2.2.2.2.2.1), val.1.2.2.2.1, (), ()), val_1.2.1, ())).bind fun val_2 =>
                      some ((val.1.1, ()), val_2.2.1, ())
                  else some ((val.1.1, ()), val_1.2.1, ())
                else some ((val.1.1, ()), val_1.2.1, ())
            else
              bif decide (val.1.2.2.2.2.2.1 < w64 (val.1.2.2.2.2.2.2.1 - val.1.2.2.2.2.2.2.2.1)) then
                bif decide (w64 (val.1.2.2.2.2.2.2.1 - val.1.2.2.2.2.2.2.2.1) < val.1.2.2.2.1) then
                  (sp_symRPr (((), val.1.2.2.2.2.2.1, w64 (val.1.2.2.2.2.2.2.1 - val.1.2.2.2.2.2.2.2.1), val.1.2.2.2.1, (), ()), val.2.1, ())).bind fun val_1 =>
                    some ((val.1.1, ()), val_1.2.1, ())
                else some ((val.1.1, ()), val.2.1, ())
              else some ((val.1.1, ()), val.2.1, ())
          else
            bif decide (val.1.2.2.2.2.2.1 < w64 (val.1.2.2.2.2.2.2.1 - val.1.2.2.2.2.2.2.2.1)) then
              bif decide (w64 (val.1.2.2.2.2.2.2.1 - val.1.2.2.2.2.2.2.2.1) < val.1.2.2.2.1) then
                (sp_symRPr (((), val.1.2.2.2.2.2.1, w64 (val.1.2.2.2.2.2.2.1 - val.1.2.2.2.2.2.2.2.1), val.1.2.2.2.1, (), ()), val.2.1, ())).bind fun val_1 =>
                  some ((val.1.1, ()), val_1.2.1, ())
              else some ((val.1.1, ()), val.2.1, ())
            else some ((val.1.1, ()), val.2.1, ())
    else
      (sp_symPrL4 ((c0, a, m, b, (), w64 (sh64 (w64u (w64 (a + b))) 1), w64 (w64 (sh64 (w64u (w64 (a + b))) 1) + m), a, m, w64 (w64 (w64 (sh64 (w64u (w64 (a + b))) 1) + m) - 1), ()), d, ())).bind fun val =>
        bif decide (val.1.2.2.2.2.2.2.2.1 < val.1.2.2.1) then
          bif decide (val.1.2.2.1 < w64 (val.1.2.2.2.2.2.2.1 - val.1.2.2.2.2.2.2.2.1)) then
            (sp_rotPr (((), val.1.2.2.2.2.2.2.2.1, val.1.2.2.1, w64 (val.1.2.2.2.2.2.2.1 - val.1.2.2.2.2.2.2.2.1), (), ()), val.2.1, ())).bind fun val_1 =>
              bif decide (val.1.2.1 < val.1.2.2.2.2.2.2.2.1) then
                bif decide (val.1.2.2.2.2.2.2.2.1 < val.1.2.2.2.2.2.1) then
                  (sp_symRPr (((), val.1.2.1, val.1.2.2.2.2.2.2.2.1, val.1.2.2.2.2.2.1, (), ()), val_1.2.1, ())).bind fun val_2 =>
                    bif decide (val.1.2.2.2.2.2.1 < w64 (val.1.2.2.2.2.2.2.1 - val.1.2.2.2.2.2.2.2.1)) then
                      bif decide (w64 (val.1.2.2.2.2.2.2.1 - val.1.2.2.2.2.2.2.2.1) < val.1.2.2.2.1) then
                        (sp_symRPr (((), val.1.2.2.2.2.2.1, w64 (val.1.2.2.2.2.2.2.1 - val.1.2.2.2.2.2.2.2.1), val.1.2.2.2.1, (), ()), val_2.2.1, ())).bind fun val_3 =>
                          some ((val.1.1, ()), val_3.2.1, ())
                      else some ((val.1.1, ()), val_2.2.1, ())
                    else some ((val.1.1, ()), val_2.2.1, ())
                else
                  bif decide (val.1.2.2.2.2.2.1 < w64 (val.1.2.2.2.2.2.2.1 - val.1.2.2.2.2.2.2.2.1)) then
                    bif decide (w64 (val.1.2.2.2.2.2.2.1 - val.1.2.2.2.2.2.2.2.1) < val.1.2.2.2.1) then
                      (sp_symRPr (((), val.1.2.2.2.2.2.1, w64 (val.1.2.2.2.2.2.2.1 - val.1.2.2.2.2.2.2.2.1), val.1.2.2.2.1, (), ()), val_1.2.1, ())).bind fun val_2 =>
                        some ((val.1.1, ()), val_2.2.1, ())
                    else some ((val.1.1, ()), val_1.2.1, ())
                  else some ((val.1.1, ()), val_1.2.1, ())
              else
                bif decide (val.1.2.2.2.2.2.1 < w64 (val.1.2.2.2.2.2.2.1 - val.1.2.2.2.2.2.2.2.1)) then
                  bif decide (w64 (val.1.2.2.2.2.2.2.1 - val.1.2.2.2.2.2.2.2.1) < val.1.2.2.2.1) then
                    (sp_symRPr (((), val.1.2.2.2.2.2.1, w64 (val.1.2.2.2.2.2.2.1 - val.1.2.2.2.2.2.2.2.1), val.1.2.2.2.1, (), ()), val_1.2.1, ())).bind fun val_2 =>
                      some ((val.1.1, ()), val_2.2.1, ())
                  else some ((val.1.1, ()), val_1.2.1, ())
                else some ((val.1.1, ()), val_1.2.1, ())
          else
            bif decide (val.1.2.1 < val.1.2.2.2.2.2.2.2.1) then
              bif decide (val.1.2.2.2.2.2.2.2.1 < val.1.2.2.2.2.2.1) then
                (sp_symRPr (((), val.1.2.1, val.1.2.2.2.2.2.2.2.1, val.1.2.2.2.2.2.1, (), ()), val.2.1, ())).bind fun val_1 =>
                  bif decide (val.1.2.2.2.2.2.1 < w64 (val.1.2.2.2.2.2.2.1 - val.1.2.2.2.2.2.2.2.1)) then
                    bif decide (w64 (val.1.2.2.2.2.2.2.1 - val.1.2.2.2.2.2.2.2.1) < val.1.2.2.2.1) then
                      (sp_symRPr (((), val.1.2.2.2.2.2.1, w64 (val.1.2.2.2.2.2.2.1 - val.1.2.2.2.2.2.2.2.1), val.1.2.2.2.1, (), ()), val_1.2.1, ())).bind fun val_2 =>
                        some ((val.1.1, ()), val_2.2.1, ())
                    else some ((val.1.1, ()), val_1.2.1, ())
                  else some ((val.1.1, ()), val_1.2.1, ())
              else
                bif decide (val.1.2.2.2.2.2.1 < w64 (val.1.2.2.2.2.2.2.1 - val.1.2.2.2.2.2.2.2.1)) then
                  bif decide (w64 (val.1.2.2.2.2.2.2.1 - val.1.2.2.2.2.2.2.2.1) < val.1.2.2.2.1) then
                    (sp_symRPr (((), val.1.2.2.2.2.2.1, w64 (val.1.2.2.2.2.2.2.1 - val.1.2.2.2.2.2.2.2.1), val.1.2.2.2.1, (), ()), val.2.1, ())).bind fun val_1 =>
                      some ((val.1.1, ()), val_1.2.1, ())
                  else some ((val.1.1, ()), val.2.1, ())
                else some ((val.1.1, ()), val.2.1, ())
            else
              bif decide (val.1.2.2.2.2.2.1 < w64 (val.1.2.2.2.2.2.2.1 - val.1.2.2.2.2.2.2.2.1)) then
                bif decide (w64 (val.1.2.2.2.2.2.2.1 - val.1.2.2.2.2.2.2.2.1) < val.1.2.2.2.1) then
                  (sp_symRPr (((), val.1.2.2.2.2.2.1, w64 (val.1.2.2.2.2.2.2.1 - val.1.2.2.2.2.2.2.2.1), val.1.2.2.2.1, (), ()), val.2.1, ())).bind fun val_1 =>
                    some ((val.1.1, ()), val_1.2.1, ())
                else some ((val.1.1, ()), val.2.1, ())
              else some ((val.1.1, ()), val.2.1, ())
        else
          bif decide (val.1.2.1 < val.1.2.2.2.2.2.2.2.1) then
            bif decide (val.1.2.2.2.2.2.2.2.1 < val.1.2.2.2.2.2.1) then
              (sp_symRPr (((), val.1.2.1, val.1.2.2.2.2.2.2.2.1, val.1.2.2.2.2.2.1, (), ()), val.2.1, ())).bind fun val_1 =>
                bif decide (val.1.2.2.2.2.2.1 < w64 (val.1.2.2.2.2.2.2.1 - val.1.2.2.2.2.2.2.2.1)) then
                  bif decide (w64 (val.1.2.2.2.2.2.2.1 - val.1.2.2.2.2.2.2.2.1) < val.1.2.2.2.1) then
                    (sp_symRPr (((), val.1.2.2.2.2.2.1, w64 (val.1.2.2.2.2.2.2.1 - val.1.2.2.2.2.2.2.2.1), val.1.2.2.2.1, (), ()), val_1.2.1, ())).bind fun val_2 =>
                      some ((val.1.1, ()), val_2.2.1, ())
                  else some ((val.1.1, ()), val_1.2.1, ())
                else some ((val.1.1, ()), val_1.2.1, ())
            else
              bif decide (val.1.2.2.2.2.2.1 < w64 (val.1.2.2.2.2.2.2.1 - val.1.2.2.2.2.2.2.2.1)) then
                bif decide (w64 (val.1.2.2.2.2.2.2.1 - val.1.2.2.2.2.2.2.2.1) < val.1.2.2.2.1) then
                  (sp_symRPr (((), val.1.2.2.2.2.2.1, w64 (val.1.2.2.2.2.2.2.1 - val.1.2.2.2.2.2.2.2.1), val.1.2.2.2.1, (), ()), val.2.1, ())).bind fun val_1 =>
                    some ((val.1.1, ()), val_1.2.1, ())
                else some ((val.1.1, ()), val.2.1, ())
              else some ((val.1.1, ()), val.2.1, ())
          else
            bif decide (val.1.2.2.2.2.2.1 < w64 (val.1.2.2.2.2.2.2.1 - val.1.2.2.2.2.2.2.2.1)) then
              bif decide (w64 (val.1.2.2.2.2.2.2.1 - val.1.2.2.2.2.2.2.2.1) < val.1.2.2.2.1) then
                (sp_symRPr (((), val.1.2.2.2.2.2.1, w64 (val.1.2.2.2.2.2.2.1 - val.1.2.2.2.2.2.2.2.1), val.1.2.2.2.1, (), ()), val.2.1, ())).bind fun val_1 =>
                  some ((val.1.1, ()), val_1.2.1, ())
              else some ((val.1.1, ()), val.2.1, ())
            else some ((val.1.1, ()), val.2.1, ())) := by kernel_rfl
theorem symPr_ok {rec : List Pr → Int → Int → Int → T (List Pr)} (symRPr_ok : Sound Tryz.prog gl 122 (Con.fx [vi, vi, vi, .clo 93 []] cdv2q0 [] cdv2q0 (PIf.spec (symRPrI rec)))) : Sound Tryz.prog gl 122 (symPr_C (PIf.spec (symPrI rec))) := by
  refine cxk (I := (symPrCI rec)) (J := (symPrI rec)) (fn := Tryz.f122) (G := [(93, cmpPr_C (PIf.spec cmpPrI)), (129, rotPr_C (PIf.spec rotPrI)), (122, Con.fx [vi, vi, vi, .clo 93 []] cdv2q0 [] cdv2q0 (PIf.spec (symRPrI rec)))]) (GOk.cons cmpPr_g cmpPr_ok (GOk.cons rotPr_g rotPr_ok (GOk.cons ⟨Tryz.f122, body Tryz.f122, by kernel_rfl, by kernel_rfl, by kernel_rfl⟩ symRPr_ok (GOk.nil)))) (by kernel_rfl) (by kernel_rfl) (Lc := [(3, LCon.of Tryz.f122.ntmps [0, 1, 4, 10, 11] symPrL0vs symPrL0os symPrL0fin (PIf.spec symPrL0I)), (9, LCon.of Tryz.f122.ntmps [0, 10, 13] symPrL1vs symPrL1os symPrL1fin (PIf.spec symPrL1I)), (15, LCon.of Tryz.f122.ntmps [0, 2, 4, 14, 15] symPrL2vs symPrL2os symPrL2fin (PIf.spec symPrL2I)), (21, LCon.of Tryz.f122.ntmps [0, 14, 17] symPrL3vs symPrL3os symPrL3fin (PIf.spec symPrL3I)), (33, LCon.of Tryz.f122.ntmps [0, 1, 2, 3, 4, 18, 19, 20, 21, 22] symPrL4vs symPrL4os symPrL4fin (PIf.spec symPrL4I))]) (nh := []) (lcok (bs := [getL (body Tryz.f122) 0, getL (body Tryz.f122) 1, getL (body Tryz.f122) 2, getL (body Tryz.f122) 3, getL (body Tryz.f122) 4]) (by kernel_rfl) ⟨lone_ok (q := (3, LCon.of Tryz.f122.ntmps [0, 1, 4, 10, 11] symPrL0vs symPrL0os symPrL0fin (PIf.spec symPrL0I))) (by kernel_rfl) (symPrL0_ok symRPr_ok), lone_ok (q := (9, LCon.of Tryz.f122.ntmps [0, 10, 13] symPrL1vs symPrL1os symPrL1fin (PIf.spec symPrL1I))) (by kernel_rfl) (symPrL1_ok symRPr_ok), lone_ok (q := (15, LCon.of Tryz.f122.ntmps [0, 2, 4, 14, 15] symPrL2vs symPrL2os symPrL2fin (PIf.spec symPrL2I))) (by kernel_rfl) (symPrL2_ok symRPr_ok), lone_ok (q := (21, LCon.of Tryz.f122.ntmps [0, 14, 17] symPrL3vs symPrL3os symPrL3fin (PIf.spec symPrL3I))) (by kernel_rfl) (symPrL3_ok symRPr_ok), lone_ok (q := (33, LCon.of Tryz.f122.ntmps [0, 1, 2, 3, 4, 18, 19, 20, 21, 22] symPrL4vs symPrL4os symPrL4fin (PIf.spec symPrL4I))) (by kernel_rfl) (symPrL4_ok symRPr_ok), trivial⟩) ?_ (fun c0 x o y h => by obtain ⟨a, h1, rfl⟩ := Option.map_eq_some_iff.1 h; exact Option.map_eq_some_iff.2 ⟨a, h1, rfl⟩)
  rintro ⟨⟨c0, a, m, b, _, _⟩, ⟨d, _⟩⟩
  refine (symPr_raw (PIf.spec cmpPrI) (PIf.spec rotPrI) (PIf.spec (symRPrI rec)) (PIf.spec symPrL0I) (PIf.spec symPrL1I) (PIf.spec symPrL2I) (PIf.spec symPrL3I) (PIf.spec symPrL4I) c0 a m b d).trans ?_
  show _ = (((symPrTr rec) a m b d).val).map ((symPrCI rec).enc ((c0, a, m, b, (), ()), (d, ())))
  unfold symPrTr
  repeat' (first | refine cond_outP (fun _ => ?_) (fun _ => ?_) | (refine bindP (fun _ => ?_); try dsimp only [selim, cond_true, cond_false, Bool.not_true, Bool.not_false, one, mI, cmpPrI, rotPrI, symRPrI, symPrL0I, symPrL1I, symPrL2I, symPrL3I, symPrL4I]) | rfl)
def symKPr : Nat → List Pr → Int → Int → Int → T (List Pr)
  | 0 => fun _ _ _ _ => .bot
  | k + 1 => fun d a m b => symPrTr (symKPr k) a m b d
theorem symKPr_ok : ∀ k, Sound Tryz.prog gl 122 (Con.fx [vi, vi, vi, .clo 93 []] cdv2q0 [] cdv2q0 (PIf.spec (symRPrI (symKPr k))))
  | 0 => fun _ _ _ _ _ hy => by cases hy
  | k + 1 => symPr_ok (symKPr_ok k)
def sortMPr : List Pr → Int → Int → Int → T (List Pr) := symKPr FU
@[reducible] def symMPrI : PIf (VhL [.s (.own 0), vi, vi, vi, .clo 93 []] × OShL cdv2q0) (VhL [] × OShL cdv2q0) where
  α := List Pr
  tr x := sortMPr x.2.1 x.1.2.1 x.1.2.2.1 x.1.2.2.2.1
  enc x a := ((), (a, ()))
theorem symMPr_ok : Sound Tryz.prog gl 122 (Con.fx [vi, vi, vi, .clo 93 []] cdv2q0 [] cdv2q0 (PIf.spec symMPrI)) := symKPr_ok FU
end Go.Ax.Cd
