/- Merged. -/
import Derived.Test.YthcfkplfmjcmoaaGreatDoorQ24
namespace Go.Ax.Cd
open Go.Proofs
set_option linter.unusedVariables false
set_option maxRecDepth 100000
abbrev aE : List OSh := [.arr (.st .pr)]
@[reducible] def cQ (rec : List Pr → Int → Int → Int → T (List Pr)) : PIf (VhL [.s (.own 0), vi, vi, vi, .clo 258 []] × OShL aE) (VhL [] × OShL aE) where
 α := List Pr
 tr x := rec x.2.1 x.1.2.1 x.1.2.2.1 x.1.2.2.2.1
 enc x a := ((), (a, ()))
abbrev iS : List Vh := [.s (.ownC 0), vi, vi, vi, .clo 258 [], vi, vi, vi, vi, vi]
abbrev iT : List OSh := aE
noncomputable abbrev symPrL4fin : Fin := (Fin.one 1 Tryz.f297.ntmps (.exit 8) [0, 1, 2, 3, 4, 18, 19, 20] [.s (.ownC 0), vi, vi, vi, .clo 258 [], vi, vi, vi] aE)
noncomputable abbrev tL (sp : VhL iS × OShL iT → Option symPrL4fin.Y) : LCon := LCon.of Tryz.f297.ntmps [0, 1, 2, 3, 4, 18, 19, 20, 21, 22] iS iT symPrL4fin sp
def bR (v1 v2 v3 v4 v5 v8 : Int) (d : List Pr) (st : Int × Int) : T ((Int × Int) ⊕ (Int)) :=
 let v6 := st.1
 let v7 := st.2
 bif decide (v6 < v7) then
 bif inR (w64 (v8 - w64 (aB (aC (w64 (v6 + v7))) 1))) d.length then
 bif inR (w64 (aB (aC (w64 (v6 + v7))) 1)) d.length then
 (lE (rdE (EK.st SN.pr) d (w64 (v8 - w64 (aB (aC (w64 (v6 + v7))) 1)))) (rdE (EK.st SN.pr) d (w64 (aB (aC (w64 (v6 + v7))) 1)))).bind fun x0 =>
 bif !decide (x0 < 0) then
 .ret (Sum.inl (w64 (w64 (aB (aC (w64 (v6 + v7))) 1) + 1), v7))
 else
 .ret (Sum.inl (v6, w64 (aB (aC (w64 (v6 + v7))) 1)))
 else
 .bot
 else
 .bot
 else
 .ret (Sum.inr v6)
@[reducible] def tM : PIf (VhL iS × OShL iT) symPrL4fin.Y where
 α := Int
 tr x := T.loop (bR x.1.2.1 x.1.2.2.1 x.1.2.2.2.1 x.1.2.2.2.2.2.1 x.1.2.2.2.2.2.2.1 x.1.2.2.2.2.2.2.2.2.2.1 x.2.1) FU (x.1.2.2.2.2.2.2.2.1, x.1.2.2.2.2.2.2.2.2.1)
 enc x a := ((x.1.1, x.1.2.1, x.1.2.2.1, x.1.2.2.2.1, (), x.1.2.2.2.2.2.1, x.1.2.2.2.2.2.2.1, a, ()), (x.2.1, ()))
theorem aKw (sp_cmpPr : cmpPr_T) (sp_rotPr : rotPr_T) (sp_symRPr : VhL [.s (.own 0), vi, vi, vi, .clo 258 []] × OShL aE → Option (VhL [] × OShL aE)) (v0 : Value) (v1 v2 v3 v4 v5 v6 v7 v8 : Int) (d : List Pr) : gY 1 Tryz.f297 4 [0, 1, 2, 3, 4, 18, 19, 20, 21, 22] iS iT symPrL4fin [(258, aS sp_cmpPr), (304, dR sp_rotPr), (297, Con.fx [vi, vi, vi, .clo 258 []] aE [] aE sp_symRPr)] [] [] (((v0, v1, v2, v3, (), v4, v5, v6, v7, v8, ()), (d, ())) : VhL iS × OShL iT) = (bif decide (v6 < v7) then bif inR (w64 (v8 - w64 (aB (aC (w64 (v6 + v7))) 1))) d.length then bif inR (w64 (aB (aC (w64 (v6 + v7))) 1)) d.length then (sp_cmpPr ((rdE (EK.st SN.pr) d (w64 (v8 - w64 (aB (aC (w64 (v6 + v7))) 1))), rdE (EK.st SN.pr) d (w64 (aB (aC (w64 (v6 + v7))) 1)), ()), ())).bind fun val => bif !decide (val.1.1 < 0) then some (Sum.inl ((v0, v1, v2, v3, (), v4, v5, w64 (w64 (aB (aC (w64 (v6 + v7))) 1) + 1), v7, v8, ()), d, ())) else some (Sum.inl ((v0, v1, v2, v3, (), v4, v5, v6, w64 (aB (aC (w64 (v6 + v7))) 1), v8, ()), d, ())) else none else none
else some (Sum.inr ((v0, v1, v2, v3, (), v4, v5, v6, ()), d, ()))) := by kernel_rfl
theorem aRb {rec : List Pr → Int → Int → Int → T (List Pr)} (symRPr_ok : aK Tryz.prog gl 297 (Con.fx [vi, vi, vi, .clo 258 []] aE [] aE (PIf.spec (cQ rec)))) : LOk Tryz.prog gl 1 (tL (PIf.spec tM)) (bE (body Tryz.f297) 4) := by
 refine lwk (Lc := []) (nh := []) (G := [(258, aS dB), (304, dR qD), (297, Con.fx [vi, vi, vi, .clo 258 []] aE [] aE (PIf.spec (cQ rec)))]) (cI (qT (GOk.cons ⟨Tryz.f297, body Tryz.f297, by kernel_rfl, by kernel_rfl, by kernel_rfl⟩ symRPr_ok (GOk.nil)))) (aA (by kernel_rfl)) (Fin.one_ok _ _ _ _) ?_
 rintro ⟨⟨v0, v1, v2, v3, _, v4, v5, v6, v7, v8, _⟩, ⟨d, _⟩⟩ y hy
 refine ⟨_, aZ (eX := fun (st : Int × Int) => (let v6 := st.1; let v7 := st.2; ((v0, v1, v2, v3, (), v4, v5, v6, v7, v8, ()), (d, ())) : VhL iS × OShL iT)) (body := bR v1 v2 v3 v4 v5 v8 d) (fun st =>?_) _ (v6, v7) y hy⟩
 obtain ⟨v6, v7⟩ := st
 refine (aKw ..).trans ?_
 unfold bR
 repeat' (first|refine aP (fun _ =>?_) (fun _ =>?_)|(refine cD (fun _ =>?_); try dsimp only [aH, cond_true, cond_false, Bool.not_true, Bool.not_false, one, mI, eU, wK, cQ]) | rfl)
abbrev iU : List Vh := [.s (.ownC 0), vi, vi]
abbrev iV : List OSh := aE
noncomputable abbrev symPrL3fin : Fin := (Fin.one 1 Tryz.f297.ntmps (.exit 6) [0] [.s (.ownC 0)] aE)
noncomputable abbrev tN (sp : VhL iU × OShL iV → Option symPrL3fin.Y) : LCon := LCon.of Tryz.f297.ntmps [0, 14, 17] iU iV symPrL3fin sp
def dV (v1 : Int) (st : Int × List Pr) : T ((Int × List Pr) ⊕ (List Pr)) :=
 let v2 := st.1
 let d := st.2
 bif decide (v2 > v1) then
 bif inR (w64 (v2 - 1)) d.length then
 bif inR v2 d.length then
 bif inR v2 d.length then
 bif inR (w64 (v2 - 1)) (wrE (EK.st SN.pr) d v2 (rdE (EK.st SN.pr) d (w64 (v2 - 1)))).length then
 .ret (Sum.inl (w64 (v2 - 1), wrE (EK.st SN.pr) (wrE (EK.st SN.pr) d v2 (rdE (EK.st SN.pr) d (w64 (v2 - 1)))) (w64 (v2 - 1)) (rdE (EK.st SN.pr) d v2)))
 else
 .bot
 else
 .bot
 else
 .bot
 else
 .bot
 else
 .ret (Sum.inr d)
@[reducible] def tO : PIf (VhL iU × OShL iV) symPrL3fin.Y where
 α := List Pr
 tr x := T.loop (dV x.1.2.1) FU (x.1.2.2.1, x.2.1)
 enc x a := ((x.1.1, ()), (a, ()))
theorem aKx (sp_cmpPr : cmpPr_T) (sp_rotPr : rotPr_T) (sp_symRPr : VhL [.s (.own 0), vi, vi, vi, .clo 258 []] × OShL aE → Option (VhL [] × OShL aE)) (v0 : Value) (v1 v2 : Int) (d : List Pr) : gY 1 Tryz.f297 3 [0, 14, 17] iU iV symPrL3fin [(258, aS sp_cmpPr), (304, dR sp_rotPr), (297, Con.fx [vi, vi, vi, .clo 258 []] aE [] aE sp_symRPr)] [] [] (((v0, v1, v2, ()), (d, ())) : VhL iU × OShL iV) = (bif decide (v2 > v1) then bif inR (w64 (v2 - 1)) d.length then bif inR v2 d.length then bif inR v2 d.length then bif inR (w64 (v2 - 1)) (wrE (EK.st SN.pr) d v2 (rdE (EK.st SN.pr) d (w64 (v2 - 1)))).length then some (Sum.inl ((v0, v1, w64 (v2 - 1), ()), wrE (EK.st SN.pr) (wrE (EK.st SN.pr) d v2 (rdE (EK.st SN.pr) d (w64 (v2 - 1)))) (w64 (v2 - 1)) (rdE (EK.st SN.pr) d v2), ())) else none else none else none else none
else some (Sum.inr ((v0, ()), d, ()))) := by kernel_rfl
theorem aRc {rec : List Pr → Int → Int → Int → T (List Pr)} (symRPr_ok : aK Tryz.prog gl 297 (Con.fx [vi, vi, vi, .clo 258 []] aE [] aE (PIf.spec (cQ rec)))) : LOk Tryz.prog gl 1 (tN (PIf.spec tO)) (bE (body Tryz.f297) 3) := by
 refine lwk (Lc := []) (nh := []) (G := [(258, aS dB), (304, dR qD), (297, Con.fx [vi, vi, vi, .clo 258 []] aE [] aE (PIf.spec (cQ rec)))]) (cI (qT (GOk.cons ⟨Tryz.f297, body Tryz.f297, by kernel_rfl, by kernel_rfl, by kernel_rfl⟩ symRPr_ok (GOk.nil)))) (aA (by kernel_rfl)) (Fin.one_ok _ _ _ _) ?_
 rintro ⟨⟨v0, v1, v2, _⟩, ⟨d, _⟩⟩ y hy
 refine ⟨_, aZ (eX := fun (st : Int × List Pr) => (let v2 := st.1; let d := st.2; ((v0, v1, v2, ()), (d, ())) : VhL iU × OShL iV)) (body := dV v1) (fun st =>?_) _ (v2, d) y hy⟩
 obtain ⟨v2, d⟩ := st
 refine (aKx ..).trans ?_
 unfold dV
 repeat' (first|refine aP (fun _ =>?_) (fun _ =>?_) | rfl)
abbrev iW : List Vh := [.s (.ownC 0), vi, .clo 258 [], vi, vi]
abbrev iZ : List OSh := aE
noncomputable abbrev symPrL2fin : Fin := (Fin.one 1 Tryz.f297.ntmps (.exit 4) [0, 2, 14] [.s (.ownC 0), vi, vi] aE)
noncomputable abbrev tP (sp : VhL iW × OShL iZ → Option symPrL2fin.Y) : LCon := LCon.of Tryz.f297.ntmps [0, 2, 4, 14, 15] iW iZ symPrL2fin sp
def dW (v1 : Int) (d : List Pr) (st : Int × Int) : T ((Int × Int) ⊕ (Int)) :=
 let v2 := st.1
 let v3 := st.2
 bif decide (v2 < v3) then
 bif inR v1 d.length then
 bif inR (w64 (aB (aC (w64 (v2 + v3))) 1)) d.length then
 (lE (rdE (EK.st SN.pr) d v1) (rdE (EK.st SN.pr) d (w64 (aB (aC (w64 (v2 + v3))) 1)))).bind fun x0 =>
 bif !decide (x0 < 0) then
 .ret (Sum.inl (w64 (w64 (aB (aC (w64 (v2 + v3))) 1) + 1), v3))
 else
 .ret (Sum.inl (v2, w64 (aB (aC (w64 (v2 + v3))) 1)))
 else
 .bot
 else
 .bot
 else
 .ret (Sum.inr v2)
@[reducible] def tQ : PIf (VhL iW × OShL iZ) symPrL2fin.Y where
 α := Int
 tr x := T.loop (dW x.1.2.1 x.2.1) FU (x.1.2.2.2.1, x.1.2.2.2.2.1)
 enc x a := ((x.1.1, x.1.2.1, a, ()), (x.2.1, ()))
theorem aKy (sp_cmpPr : cmpPr_T) (sp_rotPr : rotPr_T) (sp_symRPr : VhL [.s (.own 0), vi, vi, vi, .clo 258 []] × OShL aE → Option (VhL [] × OShL aE)) (v0 : Value) (v1 v2 v3 : Int) (d : List Pr) : gY 1 Tryz.f297 2 [0, 2, 4, 14, 15] iW iZ symPrL2fin [(258, aS sp_cmpPr), (304, dR sp_rotPr), (297, Con.fx [vi, vi, vi, .clo 258 []] aE [] aE sp_symRPr)] [] [] (((v0, v1, (), v2, v3, ()), (d, ())) : VhL iW × OShL iZ) = (bif decide (v2 < v3) then bif inR v1 d.length then bif inR (w64 (aB (aC (w64 (v2 + v3))) 1)) d.length then (sp_cmpPr ((rdE (EK.st SN.pr) d v1, rdE (EK.st SN.pr) d (w64 (aB (aC (w64 (v2 + v3))) 1)), ()), ())).bind fun val => bif !decide (val.1.1 < 0) then some (Sum.inl ((v0, v1, (), w64 (w64 (aB (aC (w64 (v2 + v3))) 1) + 1), v3, ()), d, ())) else some (Sum.inl ((v0, v1, (), v2, w64 (aB (aC (w64 (v2 + v3))) 1), ()), d, ())) else none else none
else some (Sum.inr ((v0, v1, v2, ()), d, ()))) := by kernel_rfl
theorem aRd {rec : List Pr → Int → Int → Int → T (List Pr)} (symRPr_ok : aK Tryz.prog gl 297 (Con.fx [vi, vi, vi, .clo 258 []] aE [] aE (PIf.spec (cQ rec)))) : LOk Tryz.prog gl 1 (tP (PIf.spec tQ)) (bE (body Tryz.f297) 2) := by
 refine lwk (Lc := []) (nh := []) (G := [(258, aS dB), (304, dR qD), (297, Con.fx [vi, vi, vi, .clo 258 []] aE [] aE (PIf.spec (cQ rec)))]) (cI (qT (GOk.cons ⟨Tryz.f297, body Tryz.f297, by kernel_rfl, by kernel_rfl, by kernel_rfl⟩ symRPr_ok (GOk.nil)))) (aA (by kernel_rfl)) (Fin.one_ok _ _ _ _) ?_
 rintro ⟨⟨v0, v1, _, v2, v3, _⟩, ⟨d, _⟩⟩ y hy
 refine ⟨_, aZ (eX := fun (st : Int × Int) => (let v2 := st.1; let v3 := st.2; ((v0, v1, (), v2, v3, ()), (d, ())) : VhL iW × OShL iZ)) (body := dW v1 d) (fun st =>?_) _ (v2, v3) y hy⟩
 obtain ⟨v2, v3⟩ := st
 refine (aKy ..).trans ?_
 unfold dW
 repeat' (first|refine aP (fun _ =>?_) (fun _ =>?_)|(refine cD (fun _ =>?_); try dsimp only [aH, cond_true, cond_false, Bool.not_true, Bool.not_false, one, mI, eU, wK, cQ]) | rfl)
abbrev jA : List Vh := [.s (.ownC 0), vi, vi]
abbrev jB : List OSh := aE
noncomputable abbrev symPrL1fin : Fin := (Fin.one 1 Tryz.f297.ntmps (.exit 2) [0] [.s (.ownC 0)] aE)
noncomputable abbrev tR (sp : VhL jA × OShL jB → Option symPrL1fin.Y) : LCon := LCon.of Tryz.f297.ntmps [0, 10, 13] jA jB symPrL1fin sp
def dX (v1 : Int) (st : Int × List Pr) : T ((Int × List Pr) ⊕ (List Pr)) :=
 let v2 := st.1
 let d := st.2
 bif decide (v2 < w64 (v1 - 1)) then
 bif inR (w64 (v2 + 1)) d.length then
 bif inR v2 d.length then
 bif inR v2 d.length then
 bif inR (w64 (v2 + 1)) (wrE (EK.st SN.pr) d v2 (rdE (EK.st SN.pr) d (w64 (v2 + 1)))).length then
 .ret (Sum.inl (w64 (v2 + 1), wrE (EK.st SN.pr) (wrE (EK.st SN.pr) d v2 (rdE (EK.st SN.pr) d (w64 (v2 + 1)))) (w64 (v2 + 1)) (rdE (EK.st SN.pr) d v2)))
 else
 .bot
 else
 .bot
 else
 .bot
 else
 .bot
 else
 .ret (Sum.inr d)
@[reducible] def tS : PIf (VhL jA × OShL jB) symPrL1fin.Y where
 α := List Pr
 tr x := T.loop (dX x.1.2.1) FU (x.1.2.2.1, x.2.1)
 enc x a := ((x.1.1, ()), (a, ()))
theorem aKz (sp_cmpPr : cmpPr_T) (sp_rotPr : rotPr_T) (sp_symRPr : VhL [.s (.own 0), vi, vi, vi, .clo 258 []] × OShL aE → Option (VhL [] × OShL aE)) (v0 : Value) (v1 v2 : Int) (d : List Pr) : gY 1 Tryz.f297 1 [0, 10, 13] jA jB symPrL1fin [(258, aS sp_cmpPr), (304, dR sp_rotPr), (297, Con.fx [vi, vi, vi, .clo 258 []] aE [] aE sp_symRPr)] [] [] (((v0, v1, v2, ()), (d, ())) : VhL jA × OShL jB) = (bif decide (v2 < w64 (v1 - 1)) then bif inR (w64 (v2 + 1)) d.length then bif inR v2 d.length then bif inR v2 d.length then bif inR (w64 (v2 + 1)) (wrE (EK.st SN.pr) d v2 (rdE (EK.st SN.pr) d (w64 (v2 + 1)))).length then some (Sum.inl ((v0, v1, w64 (v2 + 1), ()), wrE (EK.st SN.pr) (wrE (EK.st SN.pr) d v2 (rdE (EK.st SN.pr) d (w64 (v2 + 1)))) (w64 (v2 + 1)) (rdE (EK.st SN.pr) d v2), ())) else none else none else none else none
else some (Sum.inr ((v0, ()), d, ()))) := by kernel_rfl
theorem aRe {rec : List Pr → Int → Int → Int → T (List Pr)} (symRPr_ok : aK Tryz.prog gl 297 (Con.fx [vi, vi, vi, .clo 258 []] aE [] aE (PIf.spec (cQ rec)))) : LOk Tryz.prog gl 1 (tR (PIf.spec tS)) (bE (body Tryz.f297) 1) := by
 refine lwk (Lc := []) (nh := []) (G := [(258, aS dB), (304, dR qD), (297, Con.fx [vi, vi, vi, .clo 258 []] aE [] aE (PIf.spec (cQ rec)))]) (cI (qT (GOk.cons ⟨Tryz.f297, body Tryz.f297, by kernel_rfl, by kernel_rfl, by kernel_rfl⟩ symRPr_ok (GOk.nil)))) (aA (by kernel_rfl)) (Fin.one_ok _ _ _ _) ?_
 rintro ⟨⟨v0, v1, v2, _⟩, ⟨d, _⟩⟩ y hy
 refine ⟨_, aZ (eX := fun (st : Int × List Pr) => (let v2 := st.1; let d := st.2; ((v0, v1, v2, ()), (d, ())) : VhL jA × OShL jB)) (body := dX v1) (fun st =>?_) _ (v2, d) y hy⟩
 obtain ⟨v2, d⟩ := st
 refine (aKz ..).trans ?_
 unfold dX
 repeat' (first|refine aP (fun _ =>?_) (fun _ =>?_) | rfl)
abbrev jC : List Vh := [.s (.ownC 0), vi, .clo 258 [], vi, vi]
abbrev jD : List OSh := aE
noncomputable abbrev symPrL0fin : Fin := (Fin.one 1 Tryz.f297.ntmps (.exit 0) [0, 1, 10] [.s (.ownC 0), vi, vi] aE)
noncomputable abbrev tT (sp : VhL jC × OShL jD → Option symPrL0fin.Y) : LCon := LCon.of Tryz.f297.ntmps [0, 1, 4, 10, 11] jC jD symPrL0fin sp
def dY (v1 : Int) (d : List Pr) (st : Int × Int) : T ((Int × Int) ⊕ (Int)) :=
 let v2 := st.1
 let v3 := st.2
 bif decide (v2 < v3) then
 bif inR (w64 (aB (aC (w64 (v2 + v3))) 1)) d.length then
 bif inR v1 d.length then
 (lE (rdE (EK.st SN.pr) d (w64 (aB (aC (w64 (v2 + v3))) 1))) (rdE (EK.st SN.pr) d v1)).bind fun x0 =>
 bif decide (x0 < 0) then
 .ret (Sum.inl (w64 (w64 (aB (aC (w64 (v2 + v3))) 1) + 1), v3))
 else
 .ret (Sum.inl (v2, w64 (aB (aC (w64 (v2 + v3))) 1)))
 else
 .bot
 else
 .bot
 else
 .ret (Sum.inr v2)
@[reducible] def tU : PIf (VhL jC × OShL jD) symPrL0fin.Y where
 α := Int
 tr x := T.loop (dY x.1.2.1 x.2.1) FU (x.1.2.2.2.1, x.1.2.2.2.2.1)
 enc x a := ((x.1.1, x.1.2.1, a, ()), (x.2.1, ()))
theorem aLa (sp_cmpPr : cmpPr_T) (sp_rotPr : rotPr_T) (sp_symRPr : VhL [.s (.own 0), vi, vi, vi, .clo 258 []] × OShL aE → Option (VhL [] × OShL aE)) (v0 : Value) (v1 v2 v3 : Int) (d : List Pr) : gY 1 Tryz.f297 0 [0, 1, 4, 10, 11] jC jD symPrL0fin [(258, aS sp_cmpPr), (304, dR sp_rotPr), (297, Con.fx [vi, vi, vi, .clo 258 []] aE [] aE sp_symRPr)] [] [] (((v0, v1, (), v2, v3, ()), (d, ())) : VhL jC × OShL jD) = (bif decide (v2 < v3) then bif inR (w64 (aB (aC (w64 (v2 + v3))) 1)) d.length then bif inR v1 d.length then (sp_cmpPr ((rdE (EK.st SN.pr) d (w64 (aB (aC (w64 (v2 + v3))) 1)), rdE (EK.st SN.pr) d v1, ()), ())).bind fun val => bif decide (val.1.1 < 0) then some (Sum.inl ((v0, v1, (), w64 (w64 (aB (aC (w64 (v2 + v3))) 1) + 1), v3, ()), d, ())) else some (Sum.inl ((v0, v1, (), v2, w64 (aB (aC (w64 (v2 + v3))) 1), ()), d, ())) else none else none
else some (Sum.inr ((v0, v1, v2, ()), d, ()))) := by kernel_rfl
theorem aRf {rec : List Pr → Int → Int → Int → T (List Pr)} (symRPr_ok : aK Tryz.prog gl 297 (Con.fx [vi, vi, vi, .clo 258 []] aE [] aE (PIf.spec (cQ rec)))) : LOk Tryz.prog gl 1 (tT (PIf.spec tU)) (bE (body Tryz.f297) 0) := by
 refine lwk (Lc := []) (nh := []) (G := [(258, aS dB), (304, dR qD), (297, Con.fx [vi, vi, vi, .clo 258 []] aE [] aE (PIf.spec (cQ rec)))]) (cI (qT (GOk.cons ⟨Tryz.f297, body Tryz.f297, by kernel_rfl, by kernel_rfl, by kernel_rfl⟩ symRPr_ok (GOk.nil)))) (aA (by kernel_rfl)) (Fin.one_ok _ _ _ _) ?_
 rintro ⟨⟨v0, v1, _, v2, v3, _⟩, ⟨d, _⟩⟩ y hy
 refine ⟨_, aZ (eX := fun (st : Int × Int) => (let v2 := st.1; let v3 := st.2; ((v0, v1, (), v2, v3, ()), (d, ())) : VhL jC × OShL jD)) (body := dY v1 d) (fun st =>?_) _ (v2, v3) y hy⟩
 obtain ⟨v2, v3⟩ := st
 refine (aLa ..).trans ?_
 unfold dY
 repeat' (first|refine aP (fun _ =>?_) (fun _ =>?_)|(refine cD (fun _ =>?_); try dsimp only [aH, cond_true, cond_false, Bool.not_true, Bool.not_false, one, mI, eU, wK, cQ]) | rfl)
def fJ (rec : List Pr → Int → Int → Int → T (List Pr)) (a m b : Int) (d : List Pr) : T (List Pr) :=
 bif w64 (m - a) == 1 then
 (T.loop (dY a d) 4611686018427387904 (m, b)).bind fun x0 =>
 (T.loop (dX x0) 4611686018427387904 (a, d)).bind fun x1 =>
 .ret x1
 else
 bif w64 (b - m) == 1 then
 (T.loop (dW m d) 4611686018427387904 (a, m)).bind fun x0 =>
 (T.loop (dV x0) 4611686018427387904 (m, d)).bind fun x1 =>
 .ret x1
 else
 bif decide (m > w64 (aB (aC (w64 (a + b))) 1)) then
 (T.loop (bR a m b (w64 (aB (aC (w64 (a + b))) 1)) (w64 (w64 (aB (aC (w64 (a + b))) 1) + m)) (w64 (w64 (w64 (aB (aC (w64 (a + b))) 1) + m) - 1)) d) 4611686018427387904 (w64 (w64 (w64 (aB (aC (w64 (a + b))) 1) + m) - b), w64 (aB (aC (w64 (a + b))) 1))).bind fun x0 =>
 bif decide (x0 < m) then
 bif decide (m < w64 (w64 (w64 (aB (aC (w64 (a + b))) 1) + m) - x0)) then
 (lF x0 m (w64 (w64 (w64 (aB (aC (w64 (a + b))) 1) + m) - x0)) d).bind fun x1 =>
 bif decide (a < x0) then
 bif decide (x0 < w64 (aB (aC (w64 (a + b))) 1)) then
 (rec x1 a x0 (w64 (aB (aC (w64 (a + b))) 1))).bind fun x2 =>
 bif decide (w64 (aB (aC (w64 (a + b))) 1) < w64 (w64 (w64 (aB (aC (w64 (a + b))) 1) + m) - x0)) then
 bif decide (w64 (w64 (w64 (aB (aC (w64 (a + b))) 1) + m) - x0) < b) then
 (rec x2 (w64 (aB (aC (w64 (a + b))) 1)) (w64 (w64 (w64 (aB (aC (w64 (a + b))) 1) + m) - x0)) b).bind fun x3 =>
 .ret x3
 else
 .ret x2
 else
 .ret x2
 else
 bif decide (w64 (aB (aC (w64 (a + b))) 1) < w64 (w64 (w64 (aB (aC (w64 (a + b))) 1) + m) - x0)) then
 bif decide (w64 (w64 (w64 (aB (aC (w64 (a + b))) 1) + m) - x0) < b) then
 (rec x1 (w64 (aB (aC (w64 (a + b))) 1)) (w64 (w64 (w64 (aB (aC (w64 (a + b))) 1) + m) - x0)) b).bind fun x2 =>
 .ret x2
 else
 .ret x1
 else
 .ret x1
 else
 bif decide (w64 (aB (aC (w64 (a + b))) 1) < w64 (w64 (w64 (aB (aC (w64 (a + b))) 1) + m) - x0)) then
 bif decide (w64 (w64 (w64 (aB (aC (w64 (a + b))) 1) + m) - x0) < b) then
 (rec x1 (w64 (aB (aC (w64 (a + b))) 1)) (w64 (w64 (w64 (aB (aC (w64 (a + b))) 1) + m) - x0)) b).bind fun x2 =>
 .ret x2
 else
 .ret x1
 else
 .ret x1
 else
 bif decide (a < x0) then
 bif decide (x0 < w64 (aB (aC (w64 (a + b))) 1)) then
 (rec d a x0 (w64 (aB (aC (w64 (a + b))) 1))).bind fun x1 =>
 bif decide (w64 (aB (aC (w64 (a + b))) 1) < w64 (w64 (w64 (aB (aC (w64 (a + b))) 1) + m) - x0)) then
 bif decide (w64 (w64 (w64 (aB (aC (w64 (a + b))) 1) + m) - x0) < b) then
 (rec x1 (w64 (aB (aC (w64 (a + b))) 1)) (w64 (w64 (w64 (aB (aC (w64 (a + b))) 1) + m) - x0)) b).bind fun x2 =>
 .ret x2
 else
 .ret x1
 else
 .ret x1
 else
 bif decide (w64 (aB (aC (w64 (a + b))) 1) < w64 (w64 (w64 (aB (aC (w64 (a + b))) 1) + m) - x0)) then
 bif decide (w64 (w64 (w64 (aB (aC (w64 (a + b))) 1) + m) - x0) < b) then
 (rec d (w64 (aB (aC (w64 (a + b))) 1)) (w64 (w64 (w64 (aB (aC (w64 (a + b))) 1) + m) - x0)) b).bind fun x1 =>
 .ret x1
 else
 .ret d
 else
 .ret d
 else
 bif decide (w64 (aB (aC (w64 (a + b))) 1) < w64 (w64 (w64 (aB (aC (w64 (a + b))) 1) + m) - x0)) then
 bif decide (w64 (w64 (w64 (aB (aC (w64 (a + b))) 1) + m) - x0) < b) then
 (rec d (w64 (aB (aC (w64 (a + b))) 1)) (w64 (w64 (w64 (aB (aC (w64 (a + b))) 1) + m) - x0)) b).bind fun x1 =>
 .ret x1
 else
 .ret d
 else
 .ret d
 else
 bif decide (a < x0) then
 bif decide (x0 < w64 (aB (aC (w64 (a + b))) 1)) then
 (rec d a x0 (w64 (aB (aC (w64 (a + b))) 1))).bind fun x1 =>
 bif decide (w64 (aB (aC (w64 (a + b))) 1) < w64 (w64 (w64 (aB (aC (w64 (a + b))) 1) + m) - x0)) then
 bif decide (w64 (w64 (w64 (aB (aC (w64 (a + b))) 1) + m) - x0) < b) then
 (rec x1 (w64 (aB (aC (w64 (a + b))) 1)) (w64 (w64 (w64 (aB (aC (w64 (a + b))) 1) + m) - x0)) b).bind fun x2 =>
 .ret x2
 else
 .ret x1
 else
 .ret x1
 else
 bif decide (w64 (aB (aC (w64 (a + b))) 1) < w64 (w64 (w64 (aB (aC (w64 (a + b))) 1) + m) - x0)) then
 bif decide (w64 (w64 (w64 (aB (aC (w64 (a + b))) 1) + m) - x0) < b) then
 (rec d (w64 (aB (aC (w64 (a + b))) 1)) (w64 (w64 (w64 (aB (aC (w64 (a + b))) 1) + m) - x0)) b).bind fun x1 =>
 .ret x1
 else
 .ret d
 else
 .ret d
 else
 bif decide (w64 (aB (aC (w64 (a + b))) 1) < w64 (w64 (w64 (aB (aC (w64 (a + b))) 1) + m) - x0)) then
 bif decide (w64 (w64 (w64 (aB (aC (w64 (a + b))) 1) + m) - x0) < b) then
 (rec d (w64 (aB (aC (w64 (a + b))) 1)) (w64 (w64 (w64 (aB (aC (w64 (a + b))) 1) + m) - x0)) b).bind fun x1 =>
 .ret x1
 else
 .ret d
 else
 .ret d
 else
 (T.loop (bR a m b (w64 (aB (aC (w64 (a + b))) 1)) (w64 (w64 (aB (aC (w64 (a + b))) 1) + m)) (w64 (w64 (w64 (aB (aC (w64 (a + b))) 1) + m) - 1)) d) 4611686018427387904 (a, m)).bind fun x0 =>
 bif decide (x0 < m) then
 bif decide (m < w64 (w64 (w64 (aB (aC (w64 (a + b))) 1) + m) - x0)) then
 (lF x0 m (w64 (w64 (w64 (aB (aC (w64 (a + b))) 1) + m) - x0)) d).bind fun x1 =>
 bif decide (a < x0) then
 bif decide (x0 < w64 (aB (aC (w64 (a + b))) 1)) then
 (rec x1 a x0 (w64 (aB (aC (w64 (a + b))) 1))).bind fun x2 =>
 bif decide (w64 (aB (aC (w64 (a + b))) 1) < w64 (w64 (w64 (aB (aC (w64 (a + b))) 1) + m) - x0)) then
 bif decide (w64 (w64 (w64 (aB (aC (w64 (a + b))) 1) + m) - x0) < b) then
 (rec x2 (w64 (aB (aC (w64 (a + b))) 1)) (w64 (w64 (w64 (aB (aC (w64 (a + b))) 1) + m) - x0)) b).bind fun x3 =>
 .ret x3
 else
 .ret x2
 else
 .ret x2
 else
 bif decide (w64 (aB (aC (w64 (a + b))) 1) < w64 (w64 (w64 (aB (aC (w64 (a + b))) 1) + m) - x0)) then
 bif decide (w64 (w64 (w64 (aB (aC (w64 (a + b))) 1) + m) - x0) < b) then
 (rec x1 (w64 (aB (aC (w64 (a + b))) 1)) (w64 (w64 (w64 (aB (aC (w64 (a + b))) 1) + m) - x0)) b).bind fun x2 =>
 .ret x2
 else
 .ret x1
 else
 .ret x1
 else
 bif decide (w64 (aB (aC (w64 (a + b))) 1) < w64 (w64 (w64 (aB (aC (w64 (a + b))) 1) + m) - x0)) then
 bif decide (w64 (w64 (w64 (aB (aC (w64 (a + b))) 1) + m) - x0) < b) then
 (rec x1 (w64 (aB (aC (w64 (a + b))) 1)) (w64 (w64 (w64 (aB (aC (w64 (a + b))) 1) + m) - x0)) b).bind fun x2 =>
 .ret x2
 else
 .ret x1
 else
 .ret x1
 else
 bif decide (a < x0) then
 bif decide (x0 < w64 (aB (aC (w64 (a + b))) 1)) then
 (rec d a x0 (w64 (aB (aC (w64 (a + b))) 1))).bind fun x1 =>
 bif decide (w64 (aB (aC (w64 (a + b))) 1) < w64 (w64 (w64 (aB (aC (w64 (a + b))) 1) + m) - x0)) then
 bif decide (w64 (w64 (w64 (aB (aC (w64 (a + b))) 1) + m) - x0) < b) then
 (rec x1 (w64 (aB (aC (w64 (a + b))) 1)) (w64 (w64 (w64 (aB (aC (w64 (a + b))) 1) + m) - x0)) b).bind fun x2 =>
 .ret x2
 else
 .ret x1
 else
 .ret x1
 else
 bif decide (w64 (aB (aC (w64 (a + b))) 1) < w64 (w64 (w64 (aB (aC (w64 (a + b))) 1) + m) - x0)) then
 bif decide (w64 (w64 (w64 (aB (aC (w64 (a + b))) 1) + m) - x0) < b) then
 (rec d (w64 (aB (aC (w64 (a + b))) 1)) (w64 (w64 (w64 (aB (aC (w64 (a + b))) 1) + m) - x0)) b).bind fun x1 =>
 .ret x1
 else
 .ret d
 else
 .ret d
 else
 bif decide (w64 (aB (aC (w64 (a + b))) 1) < w64 (w64 (w64 (aB (aC (w64 (a + b))) 1) + m) - x0)) then
 bif decide (w64 (w64 (w64 (aB (aC (w64 (a + b))) 1) + m) - x0) < b) then
 (rec d (w64 (aB (aC (w64 (a + b))) 1)) (w64 (w64 (w64 (aB (aC (w64 (a + b))) 1) + m) - x0)) b).bind fun x1 =>
 .ret x1
 else
 .ret d
 else
 .ret d
 else
 bif decide (a < x0) then
 bif decide (x0 < w64 (aB (aC (w64 (a + b))) 1)) then
 (rec d a x0 (w64 (aB (aC (w64 (a + b))) 1))).bind fun x1 =>
 bif decide (w64 (aB (aC (w64 (a + b))) 1) < w64 (w64 (w64 (aB (aC (w64 (a + b))) 1) + m) - x0)) then
 bif decide (w64 (w64 (w64 (aB (aC (w64 (a + b))) 1) + m) - x0) < b) then
 (rec x1 (w64 (aB (aC (w64 (a + b))) 1)) (w64 (w64 (w64 (aB (aC (w64 (a + b))) 1) + m) - x0)) b).bind fun x2 =>
 .ret x2
 else
 .ret x1
 else
 .ret x1
 else
 bif decide (w64 (aB (aC (w64 (a + b))) 1) < w64 (w64 (w64 (aB (aC (w64 (a + b))) 1) + m) - x0)) then
 bif decide (w64 (w64 (w64 (aB (aC (w64 (a + b))) 1) + m) - x0) < b) then
 (rec d (w64 (aB (aC (w64 (a + b))) 1)) (w64 (w64 (w64 (aB (aC (w64 (a + b))) 1) + m) - x0)) b).bind fun x1 =>
 .ret x1
 else
 .ret d
 else
 .ret d
 else
 bif decide (w64 (aB (aC (w64 (a + b))) 1) < w64 (w64 (w64 (aB (aC (w64 (a + b))) 1) + m) - x0)) then
 bif decide (w64 (w64 (w64 (aB (aC (w64 (a + b))) 1) + m) - x0) < b) then
 (rec d (w64 (aB (aC (w64 (a + b))) 1)) (w64 (w64 (w64 (aB (aC (w64 (a + b))) 1) + m) - x0)) b).bind fun x1 =>
 .ret x1
 else
 .ret d
 else
 .ret d
@[reducible] def aUy (rec : List Pr → Int → Int → Int → T (List Pr)) : PIf (VhL [.s (.ownC 0), vi, vi, vi, .clo 258 []] × OShL aE) (VhL [.s (.ownC 0)] × OShL aE) where
 α := List Pr
 tr x := (fJ rec) x.1.2.1 x.1.2.2.1 x.1.2.2.2.1 x.2.1
 enc x a := ((x.1.1, ()), (a, ()))
@[reducible] def bDq (rec : List Pr → Int → Int → Int → T (List Pr)) : PIf (VhL [.s (.own 0), vi, vi, vi, .clo 258 []] × OShL aE) (VhL [] × OShL aE) where
 α := List Pr
 tr x := (fJ rec) x.1.2.1 x.1.2.2.1 x.1.2.2.2.1 x.2.1
 enc x a := ((), (a, ()))
abbrev bId : Type := VhL [.s (.own 0), vi, vi, vi, .clo 258 []] × OShL aE → Option (VhL [] × OShL aE)
noncomputable abbrev bIe (sp : bId) : Con := Con.fx [vi, vi, vi, .clo 258 []] aE [] aE sp
theorem aYt (sp_cmpPr : cmpPr_T) (sp_rotPr : rotPr_T) (sp_symRPr : VhL [.s (.own 0), vi, vi, vi, .clo 258 []] × OShL aE → Option (VhL [] × OShL aE)) (sp_symPrL0 : VhL jC × OShL jD → Option symPrL0fin.Y) (sp_symPrL1 : VhL jA × OShL jB → Option symPrL1fin.Y) (sp_symPrL2 : VhL iW × OShL iZ → Option symPrL2fin.Y) (sp_symPrL3 : VhL iU × OShL iV → Option symPrL3fin.Y) (sp_symPrL4 : VhL iS × OShL iT → Option symPrL4fin.Y) (c0 : Value) (a m b : Int) (d : List Pr) : vX Tryz.f297 [vi, vi, vi, .clo 258 []] aE [] aE [(258, aS sp_cmpPr), (304, dR sp_rotPr), (297, Con.fx [vi, vi, vi, .clo 258 []] aE [] aE sp_symRPr)] [(3, tT sp_symPrL0), (9, tR sp_symPrL1), (15, tP sp_symPrL2), (21, tN sp_symPrL3), (33, tL sp_symPrL4)] [] (((c0, a, m, b, (), ()), (d, ())) : VhL [.s (.ownC 0), vi, vi, vi, .clo 258 []] × OShL aE) = (bif w64 (m - a) == 1 then (sp_symPrL0 ((c0, a, (), m, b, ()), d, ())).bind fun val => (sp_symPrL1 ((val.1.1, val.1.2.2.1, val.1.2.1, ()), val.2.1, ())).bind fun val => some ((val.1.1, ()), val.2.1, ())
else
 bif w64 (b - m) == 1 then (sp_symPrL2 ((c0, m, (), a, m, ()), d, ())).bind fun val => (sp_symPrL3 ((val.1.1, val.1.2.2.1, val.1.2.1, ()), val.2.1, ())).bind fun val => some ((val.1.1, ()), val.2.1, ())
 else
  bif decide (m > w64 (aB (aC (w64 (a + b))) 1)) then
   (sp_symPrL4
      ((c0, a, m, b, (), w64 (aB (aC (w64 (a + b))) 1), w64 (w64 (aB (aC (w64 (a + b))) 1) + m), w64 (w64 (w64 (aB (aC (w64 (a + b))) 1) + m) - b), w64 (aB (aC (w64 (a + b))) 1),
        w64 (w64 (w64 (aB (aC (w64 (a + b))) 1) + m) - 1), ()),
       d, ())).bind
    fun val =>
    bif decide (val.1.2.2.2.2.2.2.2.1 < val.1.2.2.1) then
     bif decide (val.1.2.2.1 < w64 (val.1.2.2.2.2.2.2.1 - val.1.2.2.2.2.2.2.2.1)) then
      (sp_rotPr (((), val.1.2.2.2.2.2.2.2.1, val.1.2.2.1, w64 (val.1.2.2.2.2.2.2.1 - val.1.2.2.2.2.2.2.2.1), (), ()), val.2.1, ())).bind fun val_1 =>
       bif decide (val.1.2.1 < val.1.2.2.2.2.2.2.2.1) then
        bif decide (val.1.2.2.2.2.2.2.2.1 < val.1.2.2.2.2.2.1) then
         (sp_symRPr (((), val.1.2.1, val.1.2.2.2.2.2.2.2.1, val.1.2.2.2.2.2.1, (), ()), val_1.2.1, ())).bind fun val_2 =>
          bif decide (val.1.2.2.2.2.2.1 < w64 (val.1.2.2.2.2.2.2.1 - val.1.2.2.2.2.2.2.2.1)) then
           bif decide (w64 (val.1.2.2.2.2.2.2.1 - val.1.2.2.2.2.2.2.2.1) < val.1.2.2.2.1) then
            (sp_symRPr (((), val.1.2.2.2.2.2.1, w64 (val.1.2.2.2.2.2.2.1 - val.1.2.2.2.2.2.2.2.1), val.1.2.2.2.1, (), ()), val_2.2.1, ())).bind fun val_3 =>
             some ((val.1.1, ()), val_3.2.1, ())
           else some ((val.1.1, ()), val_2.2.1, ())
          else some ((val.1.1, ()), val_2.2.1, ())
        else
         bif decide (val.1.2.2.2.2.2.1 < w64 (val.1.2.2.2.2.2.2.1 - val.1.2.2.2.2.2.2.2.1)) then
          bif decide (w64 (val.1.2.2.2.2.2.2.1 - val.1.2.2.2.2.2.2.2.1) < val.1.2.2.2.1) then
           (sp_symRPr (((), val.1.2.2.2.2.2.1, w64 (val.1.2.2.2.2.2.2.1 - val.1.2.2.2.2.2.2.2.1), val.1.2.2.2.1, (), ()), val_1.2.1, ())).bind fun val_2 =>
            some ((val.1.1, ()), val_2.2.1, ())
          else some ((val.1.1, ()), val_1.2.1, ())
         else some ((val.1.1, ()), val_1.2.1, ())
       else
        bif decide (val.1.2.2.2.2.2.1 < w64 (val.1.2.2.2.2.2.2.1 - val.1.2.2.2.2.2.2.2.1)) then
         bif decide (w64 (val.1.2.2.2.2.2.2.1 - val.1.2.2.2.2.2.2.2.1) < val.1.2.2.2.1) then
          (sp_symRPr (((), val.1.2.2.2.2.2.1, w64 (val.1.2.2.2.2.2.2.1 - val.1.2.2.2.2.2.2.2.1), val.1.2.2.2.1, (), ()), val_1.2.1, ())).bind fun val_2 =>
           some ((val.1.1, ()), val_2.2.1, ())
         else some ((val.1.1, ()), val_1.2.1, ())
        else some ((val.1.1, ()), val_1.2.1, ())
     else
      bif decide (val.1.2.1 < val.1.2.2.2.2.2.2.2.1) then
       bif decide (val.1.2.2.2.2.2.2.2.1 < val.1.2.2.2.2.2.1) then
        (sp_symRPr (((), val.1.2.1, val.1.2.2.2.2.2.2.2.1, val.1.2.2.2.2.2.1, (), ()), val.2.1, ())).bind fun val_1 =>
         bif decide (val.1.2.2.2.2.2.1 < w64 (val.1.2.2.2.2.2.2.1 - val.1.2.2.2.2.2.2.2.1)) then
          bif decide (w64 (val.1.2.2.2.2.2.2.1 - val.1.2.2.2.2.2.2.2.1) < val.1.2.2.2.1) then
           (sp_symRPr (((), val.1.2.2.2.2.2.1, w64 (val.1.2.2.2.2.2.2.1 - val.1.2.2.2.2.2.2.2.1), val.1.2.2.2.1, (), ()), val_1.2.1, ())).bind fun val_2 =>
            some ((val.1.1, ()), val_2.2.1, ())
          else some ((val.1.1, ()), val_1.2.1, ())
         else some ((val.1.1, ()), val_1.2.1, ())
       else
        bif decide (val.1.2.2.2.2.2.1 < w64 (val.1.2.2.2.2.2.2.1 - val.1.2.2.2.2.2.2.2.1)) then
         bif decide (w64 (val.1.2.2.2.2.2.2.1 - val.1.2.2.2.2.2.2.2.1) < val.1.2.2.2.1) then
          (sp_symRPr (((), val.1.2.2.2.2.2.1, w64 (val.1.2.2.2.2.2.2.1 - val.1.2.2.2.2.2.2.2.1), val.1.2.2.2.1, (), ()), val.2.1, ())).bind fun val_1 =>
           some ((val.1.1, ()), val_1.2.1, ())
         else some ((val.1.1, ()), val.2.1, ())
        else some ((val.1.1, ()), val.2.1, ())
      else
       bif decide (val.1.2.2.2.2.2.1 < w64 (val.1.2.2.2.2.2.2.1 - val.1.2.2.2.2.2.2.2.1)) then
        bif decide (w64 (val.1.2.2.2.2.2.2.1 - val.1.2.2.2.2.2.2.2.1) < val.1.2.2.2.1) then
         (sp_symRPr (((), val.1.2.2.2.2.2.1, w64 (val.1.2.2.2.2.2.2.1 - val.1.2.2.2.2.2.2.2.1), val.1.2.2.2.1, (), ()), val.2.1, ())).bind fun val_1 =>
          some ((val.1.1, ()), val_1.2.1, ())
        else some ((val.1.1, ()), val.2.1, ())
       else some ((val.1.1, ()), val.2.1, ())
    else
     bif decide (val.1.2.1 < val.1.2.2.2.2.2.2.2.1) then
      bif decide (val.1.2.2.2.2.2.2.2.1 < val.1.2.2.2.2.2.1) then
       (sp_symRPr (((), val.1.2.1, val.1.2.2.2.2.2.2.2.1, val.1.2.2.2.2.2.1, (), ()), val.2.1, ())).bind fun val_1 =>
        bif decide (val.1.2.2.2.2.2.1 < w64 (val.1.2.2.2.2.2.2.1 - val.1.2.2.2.2.2.2.2.1)) then
         bif decide (w64 (val.1.2.2.2.2.2.2.1 - val.1.2.2.2.2.2.2.2.1) < val.1.2.2.2.1) then
          (sp_symRPr (((), val.1.2.2.2.2.2.1, w64 (val.1.2.2.2.2.2.2.1 - val.1.2.2.2.2.2.2.2.1), val.1.2.2.2.1, (), ()), val_1.2.1, ())).bind fun val_2 =>
           some ((val.1.1, ()), val_2.2.1, ())
         else some ((val.1.1, ()), val_1.2.1, ())
        else some ((val.1.1, ()), val_1.2.1, ())
      else
       bif decide (val.1.2.2.2.2.2.1 < w64 (val.1.2.2.2.2.2.2.1 - val.1.2.2.2.2.2.2.2.1)) then
        bif decide (w64 (val.1.2.2.2.2.2.2.1 - val.1.2.2.2.2.2.2.2.1) < val.1.2.2.2.1) then
         (sp_symRPr (((), val.1.2.2.2.2.2.1, w64 (val.1.2.2.2.2.2.2.1 - val.1.2.2.2.2.2.2.2.1), val.1.2.2.2.1, (), ()), val.2.1, ())).bind fun val_1 =>
          some ((val.1.1, ()), val_1.2.1, ())
        else some ((val.1.1, ()), val.2.1, ())
       else some ((val.1.1, ()), val.2.1, ())
     else
      bif decide (val.1.2.2.2.2.2.1 < w64 (val.1.2.2.2.2.2.2.1 - val.1.2.2.2.2.2.2.2.1)) then
       bif decide (w64 (val.1.2.2.2.2.2.2.1 - val.1.2.2.2.2.2.2.2.1) < val.1.2.2.2.1) then
        (sp_symRPr (((), val.1.2.2.2.2.2.1, w64 (val.1.2.2.2.2.2.2.1 - val.1.2.2.2.2.2.2.2.1), val.1.2.2.2.1, (), ()), val.2.1, ())).bind fun val_1 =>
         some ((val.1.1, ()), val_1.2.1, ())
       else some ((val.1.1, ()), val.2.1, ())
      else some ((val.1.1, ()), val.2.1, ())
  else
   (sp_symPrL4 ((c0, a, m, b, (), w64 (aB (aC (w64 (a + b))) 1), w64 (w64 (aB (aC (w64 (a + b))) 1) + m), a, m, w64 (w64 (w64 (aB (aC (w64 (a + b))) 1) + m) - 1), ()), d, ())).bind fun val =>
    bif decide (val.1.2.2.2.2.2.2.2.1 < val.1.2.2.1) then
     bif decide (val.1.2.2.1 < w64 (val.1.2.2.2.2.2.2.1 - val.1.2.2.2.2.2.2.2.1)) then
      (sp_rotPr (((), val.1.2.2.2.2.2.2.2.1, val.1.2.2.1, w64 (val.1.2.2.2.2.2.2.1 - val.1.2.2.2.2.2.2.2.1), (), ()), val.2.1, ())).bind fun val_1 =>
       bif decide (val.1.2.1 < val.1.2.2.2.2.2.2.2.1) then
        bif decide (val.1.2.2.2.2.2.2.2.1 < val.1.2.2.2.2.2.1) then
         (sp_symRPr (((), val.1.2.1, val.1.2.2.2.2.2.2.2.1, val.1.2.2.2.2.2.1, (), ()), val_1.2.1, ())).bind fun val_2 =>
          bif decide (val.1.2.2.2.2.2.1 < w64 (val.1.2.2.2.2.2.2.1 - val.1.2.2.2.2.2.2.2.1)) then
           bif decide (w64 (val.1.2.2.2.2.2.2.1 - val.1.2.2.2.2.2.2.2.1) < val.1.2.2.2.1) then
            (sp_symRPr (((), val.1.2.2.2.2.2.1, w64 (val.1.2.2.2.2.2.2.1 - val.1.2.2.2.2.2.2.2.1), val.1.2.2.2.1, (), ()), val_2.2.1, ())).bind fun val_3 =>
             some ((val.1.1, ()), val_3.2.1, ())
           else some ((val.1.1, ()), val_2.2.1, ())
          else some ((val.1.1, ()), val_2.2.1, ())
        else
         bif decide (val.1.2.2.2.2.2.1 < w64 (val.1.2.2.2.2.2.2.1 - val.1.2.2.2.2.2.2.2.1)) then
          bif decide (w64 (val.1.2.2.2.2.2.2.1 - val.1.2.2.2.2.2.2.2.1) < val.1.2.2.2.1) then
           (sp_symRPr (((), val.1.2.2.2.2.2.1, w64 (val.1.2.2.2.2.2.2.1 - val.1.2.2.2.2.2.2.2.1), val.1.2.2.2.1, (), ()), val_1.2.1, ())).bind fun val_2 =>
            some ((val.1.1, ()), val_2.2.1, ())
          else some ((val.1.1, ()), val_1.2.1, ())
         else some ((val.1.1, ()), val_1.2.1, ())
       else
        bif decide (val.1.2.2.2.2.2.1 < w64 (val.1.2.2.2.2.2.2.1 - val.1.2.2.2.2.2.2.2.1)) then
         bif decide (w64 (val.1.2.2.2.2.2.2.1 - val.1.2.2.2.2.2.2.2.1) < val.1.2.2.2.1) then
          (sp_symRPr (((), val.1.2.2.2.2.2.1, w64 (val.1.2.2.2.2.2.2.1 - val.1.2.2.2.2.2.2.2.1), val.1.2.2.2.1, (), ()), val_1.2.1, ())).bind fun val_2 =>
           some ((val.1.1, ()), val_2.2.1, ())
         else some ((val.1.1, ()), val_1.2.1, ())
        else some ((val.1.1, ()), val_1.2.1, ())
     else
      bif decide (val.1.2.1 < val.1.2.2.2.2.2.2.2.1) then
       bif decide (val.1.2.2.2.2.2.2.2.1 < val.1.2.2.2.2.2.1) then
        (sp_symRPr (((), val.1.2.1, val.1.2.2.2.2.2.2.2.1, val.1.2.2.2.2.2.1, (), ()), val.2.1, ())).bind fun val_1 =>
         bif decide (val.1.2.2.2.2.2.1 < w64 (val.1.2.2.2.2.2.2.1 - val.1.2.2.2.2.2.2.2.1)) then
          bif decide (w64 (val.1.2.2.2.2.2.2.1 - val.1.2.2.2.2.2.2.2.1) < val.1.2.2.2.1) then
           (sp_symRPr (((), val.1.2.2.2.2.2.1, w64 (val.1.2.2.2.2.2.2.1 - val.1.2.2.2.2.2.2.2.1), val.1.2.2.2.1, (), ()), val_1.2.1, ())).bind fun val_2 =>
            some ((val.1.1, ()), val_2.2.1, ())
          else some ((val.1.1, ()), val_1.2.1, ())
         else some ((val.1.1, ()), val_1.2.1, ())
       else
        bif decide (val.1.2.2.2.2.2.1 < w64 (val.1.2.2.2.2.2.2.1 - val.1.2.2.2.2.2.2.2.1)) then
         bif decide (w64 (val.1.2.2.2.2.2.2.1 - val.1.2.2.2.2.2.2.2.1) < val.1.2.2.2.1) then
          (sp_symRPr (((), val.1.2.2.2.2.2.1, w64 (val.1.2.2.2.2.2.2.1 - val.1.2.2.2.2.2.2.2.1), val.1.2.2.2.1, (), ()), val.2.1, ())).bind fun val_1 =>
           some ((val.1.1, ()), val_1.2.1, ())
         else some ((val.1.1, ()), val.2.1, ())
        else some ((val.1.1, ()), val.2.1, ())
      else
       bif decide (val.1.2.2.2.2.2.1 < w64 (val.1.2.2.2.2.2.2.1 - val.1.2.2.2.2.2.2.2.1)) then
        bif decide (w64 (val.1.2.2.2.2.2.2.1 - val.1.2.2.2.2.2.2.2.1) < val.1.2.2.2.1) then
         (sp_symRPr (((), val.1.2.2.2.2.2.1, w64 (val.1.2.2.2.2.2.2.1 - val.1.2.2.2.2.2.2.2.1), val.1.2.2.2.1, (), ()), val.2.1, ())).bind fun val_1 =>
          some ((val.1.1, ()), val_1.2.1, ())
        else some ((val.1.1, ()), val.2.1, ())
       else some ((val.1.1, ()), val.2.1, ())
    else
     bif decide (val.1.2.1 < val.1.2.2.2.2.2.2.2.1) then
      bif decide (val.1.2.2.2.2.2.2.2.1 < val.1.2.2.2.2.2.1) then
       (sp_symRPr (((), val.1.2.1, val.1.2.2.2.2.2.2.2.1, val.1.2.2.2.2.2.1, (), ()), val.2.1, ())).bind fun val_1 =>
        bif decide (val.1.2.2.2.2.2.1 < w64 (val.1.2.2.2.2.2.2.1 - val.1.2.2.2.2.2.2.2.1)) then
         bif decide (w64 (val.1.2.2.2.2.2.2.1 - val.1.2.2.2.2.2.2.2.1) < val.1.2.2.2.1) then
          (sp_symRPr (((), val.1.2.2.2.2.2.1, w64 (val.1.2.2.2.2.2.2.1 - val.1.2.2.2.2.2.2.2.1), val.1.2.2.2.1, (), ()), val_1.2.1, ())).bind fun val_2 =>
           some ((val.1.1, ()), val_2.2.1, ())
         else some ((val.1.1, ()), val_1.2.1, ())
        else some ((val.1.1, ()), val_1.2.1, ())
      else
       bif decide (val.1.2.2.2.2.2.1 < w64 (val.1.2.2.2.2.2.2.1 - val.1.2.2.2.2.2.2.2.1)) then
        bif decide (w64 (val.1.2.2.2.2.2.2.1 - val.1.2.2.2.2.2.2.2.1) < val.1.2.2.2.1) then
         (sp_symRPr (((), val.1.2.2.2.2.2.1, w64 (val.1.2.2.2.2.2.2.1 - val.1.2.2.2.2.2.2.2.1), val.1.2.2.2.1, (), ()), val.2.1, ())).bind fun val_1 =>
          some ((val.1.1, ()), val_1.2.1, ())
        else some ((val.1.1, ()), val.2.1, ())
       else some ((val.1.1, ()), val.2.1, ())
     else
      bif decide (val.1.2.2.2.2.2.1 < w64 (val.1.2.2.2.2.2.2.1 - val.1.2.2.2.2.2.2.2.1)) then
       bif decide (w64 (val.1.2.2.2.2.2.2.1 - val.1.2.2.2.2.2.2.2.1) < val.1.2.2.2.1) then
        (sp_symRPr (((), val.1.2.2.2.2.2.1, w64 (val.1.2.2.2.2.2.2.1 - val.1.2.2.2.2.2.2.2.1), val.1.2.2.2.1, (), ()), val.2.1, ())).bind fun val_1 =>
         some ((val.1.1, ()), val_1.2.1, ())
       else some ((val.1.1, ()), val.2.1, ())
      else some ((val.1.1, ()), val.2.1, ())) := by kernel_rfl
theorem bDr {rec : List Pr → Int → Int → Int → T (List Pr)} (symRPr_ok : aK Tryz.prog gl 297 (Con.fx [vi, vi, vi, .clo 258 []] aE [] aE (PIf.spec (cQ rec)))) : aK Tryz.prog gl 297 (bIe (PIf.spec (bDq rec))) := by
 refine cxk (I := (aUy rec)) (J := (bDq rec)) (fn := Tryz.f297) (G := [(258, aS dB), (304, dR qD), (297, Con.fx [vi, vi, vi, .clo 258 []] aE [] aE (PIf.spec (cQ rec)))]) (cI (qT (GOk.cons ⟨Tryz.f297, body Tryz.f297, by kernel_rfl, by kernel_rfl, by kernel_rfl⟩ symRPr_ok (GOk.nil)))) (by kernel_rfl) (by kernel_rfl) (Lc := [(3, tT (PIf.spec tU)), (9, tR (PIf.spec tS)), (15, tP (PIf.spec tQ)), (21, tN (PIf.spec tO)), (33, tL (PIf.spec tM))]) (nh := []) (bD (bs := [bE (body Tryz.f297) 0, bE (body Tryz.f297) 1, bE (body Tryz.f297) 2, bE (body Tryz.f297) 3, bE (body Tryz.f297) 4]) (by kernel_rfl) ⟨bB (q := (3, tT (PIf.spec tU))) (by kernel_rfl) (aRf symRPr_ok), bB (q := (9, tR (PIf.spec tS))) (by kernel_rfl) (aRe symRPr_ok), bB (q := (15, tP (PIf.spec tQ))) (by kernel_rfl) (aRd symRPr_ok), bB (q := (21, tN (PIf.spec tO))) (by kernel_rfl) (aRc symRPr_ok), bB (q := (33, tL (PIf.spec tM))) (by kernel_rfl) (aRb symRPr_ok), trivial⟩) ?_ (fun c0 x o y h => by obtain ⟨a, h1, rfl⟩ := Option.map_eq_some_iff.1 h; exact Option.map_eq_some_iff.2 ⟨a, h1, rfl⟩)
 rintro ⟨⟨c0, a, m, b, _, _⟩, ⟨d, _⟩⟩
 refine (aYt ..).trans ?_
 show _ = (((fJ rec) a m b d).val).map ((aUy rec).enc ((c0, a, m, b, (), ()), (d, ())))
 unfold fJ
 repeat' (first|refine aP (fun _ =>?_) (fun _ =>?_)|(refine cD (fun _ =>?_); try dsimp only [aH, cond_true, cond_false, Bool.not_true, Bool.not_false, one, mI, eU, wK, cQ, tU, tS, tQ, tO, tM]) | rfl)
def qE : Nat → List Pr → Int → Int → Int → T (List Pr)
 | 0 => fun _ _ _ _ => .bot
 | k + 1 => fun d a m b => fJ (qE k) a m b d
theorem aFa : ∀ k, aK Tryz.prog gl 297 (Con.fx [vi, vi, vi, .clo 258 []] aE [] aE (PIf.spec (cQ (qE k))))
 | 0 => fun _ _ _ _ _ hy => by cases hy
 | k + 1 => bDr (aFa k)
def aAe : List Pr → Int → Int → Int → T (List Pr) := qE FU
@[reducible] def lG : PIf (VhL [.s (.own 0), vi, vi, vi, .clo 258 []] × OShL aE) (VhL [] × OShL aE) where
 α := List Pr
 tr x := aAe x.2.1 x.1.2.1 x.1.2.2.1 x.1.2.2.2.1
 enc x a := ((), (a, ()))
theorem qU : aK Tryz.prog gl 297 (Con.fx [vi, vi, vi, .clo 258 []] aE [] aE (PIf.spec lG)) := aFa FU
abbrev aN : List OSh := [.arr (.st .pr)]
abbrev dF : List Vh := [.s (.ownC 0), vi, .clo 258 [], vi, vi, vi]
abbrev dG : List OSh := aN
noncomputable abbrev stabVPrL2fin : Fin := (Fin.one 1 Tryz.f290.ntmps (.exit 4) [0, 1, 2, 6, 7] [.s (.ownC 0), vi, .clo 258 [], vi, vi] aN)
noncomputable abbrev fQ (sp : VhL dF × OShL dG → Option stabVPrL2fin.Y) : LCon := LCon.of Tryz.f290.ntmps [0, 1, 2, 6, 7, 8] dF dG stabVPrL2fin sp
def cE (v1 v2 : Int) (st : Int × Int × List Pr) : T ((Int × Int × List Pr) ⊕ (Int × List Pr)) :=
 let v3 := st.1
 let v4 := st.2.1
 let d := st.2.2
 bif decide (v4 ≤ v1) then
 (aAe d v3 (w64 (v3 + v2)) v4).bind fun x0 =>
 .ret (Sum.inl (v4, w64 (v4 + w64 (2 * v2)), x0))
 else
 .ret (Sum.inr (v3, d))
@[reducible] def fR : PIf (VhL dF × OShL dG) stabVPrL2fin.Y where
 α := Int × List Pr
 tr x := T.loop (cE x.1.2.1 x.1.2.2.2.1) FU (x.1.2.2.2.2.1, x.1.2.2.2.2.2.1, x.2.1)
 enc x a := ((x.1.1, x.1.2.1, (), x.1.2.2.2.1, a.1, ()), (a.2, ()))
theorem aDq (p0 : cmpPr_T) (p1 : insPr_T) (p2 : VhL [.s (.own 0), vi, vi, vi, .clo 258 []] × OShL aN → Option (VhL [] × OShL aN)) (v0 : Value) (v1 v2 v3 v4 : Int) (d : List Pr) : gY 1 Tryz.f290 2 [0, 1, 2, 6, 7, 8] dF dG stabVPrL2fin [(258, aS p0), (296, kC p1), (297, Con.fx [vi, vi, vi, .clo 258 []] aN [] aN p2)] [] [] (((v0, v1, (), v2, v3, v4, ()), (d, ())) : VhL dF × OShL dG) = (bif decide (v4 ≤ v1) then (p2 (((), v3, w64 (v3 + v2), v4, (), ()), d, ())).bind fun z => some (Sum.inl ((v0, v1, (), v2, v4, w64 (v4 + w64 (2 * v2)), ()), z.2.1, ())) else some (Sum.inr ((v0, v1, (), v2, v3, ()), d, ()))) := by kernel_rfl
theorem tV : LOk Tryz.prog gl 1 (fQ (PIf.spec fR)) (bE (body Tryz.f290) 2) := by
 refine lwk (Lc := []) (nh := []) (G := [(258, aS dB), (296, kC wM), (297, Con.fx [vi, vi, vi, .clo 258 []] aN [] aN (PIf.spec lG))]) (cI (aAd (GOk.cons ⟨Tryz.f297, body Tryz.f297, by kernel_rfl, by kernel_rfl, by kernel_rfl⟩ qU (GOk.nil)))) (aA (by kernel_rfl)) (Fin.one_ok _ _ _ _) ?_
 rintro ⟨⟨v0, v1, _, v2, v3, v4, _⟩, ⟨d, _⟩⟩ y hy
 refine ⟨_, aZ (eX := fun (st : Int × Int × List Pr) => (let v3 := st.1; let v4 := st.2.1; let d := st.2.2; ((v0, v1, (), v2, v3, v4, ()), (d, ())) : VhL dF × OShL dG)) (body := cE v1 v2) (fun st =>?_) _ (v3, v4, d) y hy⟩
 obtain ⟨v3, v4, d⟩ := st
 refine (aDq ..).trans ?_
 unfold cE
 repeat' (first|refine aP (fun _ =>?_) (fun _ =>?_)|(refine cD (fun _ =>?_); try dsimp only [aH, cond_true, cond_false, Bool.not_true, Bool.not_false, one, mI, eU, wL, lG]) | rfl)
abbrev dZ : List Vh := [.s (.ownC 0), vi, .clo 258 [], vi]
abbrev eD : List OSh := aN
noncomputable abbrev stabVPrL1fin : Fin := (Fin.one 1 Tryz.f290.ntmps (.exit 2) [0] [.s (.ownC 0)] aN)
noncomputable abbrev oN (sp : VhL dZ × OShL eD → Option stabVPrL1fin.Y) : LCon := LCon.of Tryz.f290.ntmps [0, 1, 2, 6] dZ eD stabVPrL1fin sp
def bM (v1 : Int) (st : Int × List Pr) : T ((Int × List Pr) ⊕ (List Pr)) :=
 let v2 := st.1
 let d := st.2
 bif decide (v2 < v1) then
 (T.loop (cE v1 v2) 4611686018427387904 (0, w64 (2 * v2), d)).bind fun x0 =>
 bif decide (w64 (x0.1 + v2) < v1) then
 (aAe x0.2 x0.1 (w64 (x0.1 + v2)) v1).bind fun x1 =>
 .ret (Sum.inl (w64 (v2 * 2), x1))
 else
 .ret (Sum.inl (w64 (v2 * 2), x0.2))
 else
 .ret (Sum.inr d)
@[reducible] def oP : PIf (VhL dZ × OShL eD) stabVPrL1fin.Y where
 α := List Pr
 tr x := T.loop (bM x.1.2.1) FU (x.1.2.2.2.1, x.2.1)
 enc x a := ((x.1.1, ()), (a, ()))
theorem aDr (sp_cmpPr : cmpPr_T) (sp_insPr : insPr_T) (sp_symMPr : VhL [.s (.own 0), vi, vi, vi, .clo 258 []] × OShL aN → Option (VhL [] × OShL aN)) (sp_stabVPrL2 : VhL dF × OShL dG → Option stabVPrL2fin.Y) (v0 : Value) (v1 v2 : Int) (d : List Pr) : gY 1 Tryz.f290 1 [0, 1, 2, 6] dZ eD stabVPrL1fin [(258, aS sp_cmpPr), (296, kC sp_insPr), (297, Con.fx [vi, vi, vi, .clo 258 []] aN [] aN sp_symMPr)] [(9, fQ sp_stabVPrL2)] [] (((v0, v1, (), v2, ()), (d, ())) : VhL dZ × OShL eD) = (bif decide (v2 < v1) then (sp_stabVPrL2 ((v0, v1, (), v2, 0, w64 (2 * v2), ()), d, ())).bind fun val => bif decide (w64 (val.1.2.2.2.2.1 + val.1.2.2.2.1) < val.1.2.1) then (sp_symMPr (((), val.1.2.2.2.2.1, w64 (val.1.2.2.2.2.1 + val.1.2.2.2.1), val.1.2.1, (), ()), val.2.1, ())).bind fun val_1 => some (Sum.inl ((val.1.1, val.1.2.1, (), w64 (val.1.2.2.2.1 * 2), ()), val_1.2.1, ())) else some (Sum.inl ((val.1.1, val.1.2.1, (), w64 (val.1.2.2.2.1 * 2), ()), val.2.1, ()))
else some (Sum.inr ((v0, ()), d, ()))) := by kernel_rfl
theorem aHi : LOk Tryz.prog gl 1 (oN (PIf.spec oP)) (bE (body Tryz.f290) 1) := by
 refine lwk (Lc := [(9, fQ (PIf.spec fR))]) (nh := []) (G := [(258, aS dB), (296, kC wM), (297, Con.fx [vi, vi, vi, .clo 258 []] aN [] aN (PIf.spec lG))]) (cI (aAd (GOk.cons ⟨Tryz.f297, body Tryz.f297, by kernel_rfl, by kernel_rfl, by kernel_rfl⟩ qU (GOk.nil)))) (bD (bs := [bE (body Tryz.f290) 2]) (by kernel_rfl) ⟨bB (q := (9, fQ (PIf.spec fR))) (by kernel_rfl) tV, trivial⟩) (Fin.one_ok _ _ _ _) ?_
 rintro ⟨⟨v0, v1, _, v2, _⟩, ⟨d, _⟩⟩ y hy
 refine ⟨_, aZ (eX := fun (st : Int × List Pr) => (let v2 := st.1; let d := st.2; ((v0, v1, (), v2, ()), (d, ())) : VhL dZ × OShL eD)) (body := bM v1) (fun st =>?_) _ (v2, d) y hy⟩
 obtain ⟨v2, d⟩ := st
 refine (aDr ..).trans ?_
 unfold bM
 repeat' (first|refine aP (fun _ =>?_) (fun _ =>?_)|(refine cD (fun _ =>?_); try dsimp only [aH, cond_true, cond_false, Bool.not_true, Bool.not_false, one, mI, eU, wL, lG, fR]) | rfl)
abbrev eE : List Vh := [.s (.ownC 0), vi, .clo 258 [], vi, vi, vi]
abbrev eF : List OSh := aN
noncomputable abbrev stabVPrL0fin : Fin := (Fin.one 1 Tryz.f290.ntmps (.exit 0) [0, 1, 2, 6, 7] [.s (.ownC 0), vi, .clo 258 [], vi, vi] aN)
noncomputable abbrev oQ (sp : VhL eE × OShL eF → Option stabVPrL0fin.Y) : LCon := LCon.of Tryz.f290.ntmps [0, 1, 2, 6, 7, 8] eE eF stabVPrL0fin sp
def cW (v1 v2 : Int) (st : Int × Int × List Pr) : T ((Int × Int × List Pr) ⊕ (Int × List Pr)) :=
 let v3 := st.1
 let v4 := st.2.1
 let d := st.2.2
 bif decide (v4 ≤ v1) then
 (nH v3 v4 d).bind fun x0 =>
 .ret (Sum.inl (v4, w64 (v4 + v2), x0))
 else
 .ret (Sum.inr (v3, d))
@[reducible] def oR : PIf (VhL eE × OShL eF) stabVPrL0fin.Y where
 α := Int × List Pr
 tr x := T.loop (cW x.1.2.1 x.1.2.2.2.1) FU (x.1.2.2.2.2.1, x.1.2.2.2.2.2.1, x.2.1)
 enc x a := ((x.1.1, x.1.2.1, (), x.1.2.2.2.1, a.1, ()), (a.2, ()))
theorem aDs (p0 : cmpPr_T) (p1 : insPr_T) (p2 : VhL [.s (.own 0), vi, vi, vi, .clo 258 []] × OShL aN → Option (VhL [] × OShL aN)) (v0 : Value) (v1 v2 v3 v4 : Int) (d : List Pr) : gY 1 Tryz.f290 0 [0, 1, 2, 6, 7, 8] eE eF stabVPrL0fin [(258, aS p0), (296, kC p1), (297, Con.fx [vi, vi, vi, .clo 258 []] aN [] aN p2)] [] [] (((v0, v1, (), v2, v3, v4, ()), (d, ())) : VhL eE × OShL eF) = (bif decide (v4 ≤ v1) then (p1 (((), v3, v4, (), ()), d, ())).bind fun z => some (Sum.inl ((v0, v1, (), v2, v4, w64 (v4 + v2), ()), z.2.1, ())) else some (Sum.inr ((v0, v1, (), v2, v3, ()), d, ()))) := by kernel_rfl
theorem aHj : LOk Tryz.prog gl 1 (oQ (PIf.spec oR)) (bE (body Tryz.f290) 0) := by
 refine lwk (Lc := []) (nh := []) (G := [(258, aS dB), (296, kC wM), (297, Con.fx [vi, vi, vi, .clo 258 []] aN [] aN (PIf.spec lG))]) (cI (aAd (GOk.cons ⟨Tryz.f297, body Tryz.f297, by kernel_rfl, by kernel_rfl, by kernel_rfl⟩ qU (GOk.nil)))) (aA (by kernel_rfl)) (Fin.one_ok _ _ _ _) ?_
 rintro ⟨⟨v0, v1, _, v2, v3, v4, _⟩, ⟨d, _⟩⟩ y hy
 refine ⟨_, aZ (eX := fun (st : Int × Int × List Pr) => (let v3 := st.1; let v4 := st.2.1; let d := st.2.2; ((v0, v1, (), v2, v3, v4, ()), (d, ())) : VhL eE × OShL eF)) (body := cW v1 v2) (fun st =>?_) _ (v3, v4, d) y hy⟩
 obtain ⟨v3, v4, d⟩ := st
 refine (aDs ..).trans ?_
 unfold cW
 repeat' (first|refine aP (fun _ =>?_) (fun _ =>?_)|(refine cD (fun _ =>?_); try dsimp only [aH, cond_true, cond_false, Bool.not_true, Bool.not_false, one, mI, eU, wL, lG]) | rfl)
def jE (n : Int) (d : List Pr) : T (List Pr) :=
 (T.loop (cW n 20) 4611686018427387904 (0, 20, d)).bind fun x0 =>
 (nH x0.1 n x0.2).bind fun x1 =>
 (T.loop (bM n) 4611686018427387904 (20, x1)).bind fun x2 =>
 .ret x2
@[reducible] def aYu : PIf (VhL [.s (.ownC 0), vi, .clo 258 []] × OShL aN) (VhL [.s (.ownC 0)] × OShL aN) where
 α := List Pr
 tr x := jE x.1.2.1 x.2.1
 enc x a := ((x.1.1, ()), (a, ()))
@[reducible] def aCq : PIf (VhL [.s (.own 0), vi, .clo 258 []] × OShL aN) (VhL [] × OShL aN) where
 α := List Pr
 tr x := jE x.1.2.1 x.2.1
 enc x a := ((), (a, ()))
abbrev stabVPr_T : Type := VhL [.s (.own 0), vi, .clo 258 []] × OShL aN → Option (VhL [] × OShL aN)
noncomputable abbrev qV (sp : stabVPr_T) : Con := Con.fx [vi, .clo 258 []] aN [] aN sp
noncomputable abbrev aCr : stabVPr_T := PIf.spec aCq
theorem aLb (p0 : cmpPr_T) (p1 : insPr_T) (p2 : VhL [.s (.own 0), vi, vi, vi, .clo 258 []] × OShL aN → Option (VhL [] × OShL aN)) (p3 : VhL eE × OShL eF → Option stabVPrL0fin.Y) (p4 : VhL dF × OShL dG → Option stabVPrL2fin.Y) (p5 : VhL dZ × OShL eD → Option stabVPrL1fin.Y) (c0 : Value) (n : Int) (d : List Pr) : vX Tryz.f290 [vi, .clo 258 []] aN [] aN [(258, aS p0), (296, kC p1), (297, Con.fx [vi, vi, vi, .clo 258 []] aN [] aN p2)] [(2, oQ p3), (9, fQ p4), (7, oN p5)] [] (((c0, n, (), ()), (d, ())) : VhL [.s (.ownC 0), vi, .clo 258 []] × OShL aN) = ((p3 ((c0, n, (), 20, 0, 20, ()), d, ())).bind fun z => (p1 (((), z.1.2.2.2.2.1, z.1.2.1, (), ()), z.2.1, ())).bind fun z1 => (p5 ((z.1.1, z.1.2.1, (), z.1.2.2.2.1, ()), z1.2.1, ())).bind fun z => some ((z.1.1, ()), z.2.1, ())) := by kernel_rfl
theorem aRg : aK Tryz.prog gl 290 (qV aCr) := by
 refine cxk (I := aYu) (J := aCq) (fn := Tryz.f290) (G := [(258, aS dB), (296, kC wM), (297, Con.fx [vi, vi, vi, .clo 258 []] aN [] aN (PIf.spec lG))]) (cI (aAd (GOk.cons ⟨Tryz.f297, body Tryz.f297, by kernel_rfl, by kernel_rfl, by kernel_rfl⟩ qU (GOk.nil)))) (by kernel_rfl) (by kernel_rfl) (Lc := [(2, oQ (PIf.spec oR)), (9, fQ (PIf.spec fR)), (7, oN (PIf.spec oP))]) (nh := []) (bD (bs := [bE (body Tryz.f290) 0, bE (body Tryz.f290) 1, bE (body Tryz.f290) 2]) (by kernel_rfl) ⟨bB (q := (2, oQ (PIf.spec oR))) (by kernel_rfl) aHj, bB (q := (7, oN (PIf.spec oP))) (by kernel_rfl) aHi, bB (q := (9, fQ (PIf.spec fR))) (by kernel_rfl) tV, trivial⟩) ?_ (fun c0 x o y h => by obtain ⟨a, h1, rfl⟩ := Option.map_eq_some_iff.1 h; exact Option.map_eq_some_iff.2 ⟨a, h1, rfl⟩)
 rintro ⟨⟨c0, n, _, _⟩, ⟨d, _⟩⟩
 refine (aLb ..).trans ?_
 show _ = ((jE n d).val).map _
 unfold jE
 repeat' (first|(refine cD (fun _ =>?_); try dsimp only [aH, cond_true, cond_false, Bool.not_true, Bool.not_false, one, mI, eU, wL, lG, oR, fR, oP]) | rfl)
theorem aYv {G : List (Nat × Con)} (h : GOk Tryz.prog gl G) : GOk Tryz.prog gl ((290, qV aCr) :: G) := GOk.cons ⟨Tryz.f290, body Tryz.f290, by kernel_rfl, by kernel_rfl, by kernel_rfl⟩ aRg h
def jF (d : List Pr) : T (List Pr) :=
 (jE (Int.ofNat d.length) d).bind fun x0 =>
 .ret x0
@[reducible] def aYw : PIf (VhL [.s (.ownC 0), .clo 258 []] × OShL aN) (VhL [.s (.ownC 0)] × OShL aN) where
 α := List Pr
 tr x := jF x.2.1
 enc x a := ((x.1.1, ()), (a, ()))
@[reducible] def aLc : PIf (VhL [.s (.own 0), .clo 258 []] × OShL aN) (VhL [] × OShL aN) where
 α := List Pr
 tr x := jF x.2.1
 enc x a := ((), (a, ()))
abbrev stabWPr_T : Type := VhL [.s (.own 0), .clo 258 []] × OShL aN → Option (VhL [] × OShL aN)
noncomputable abbrev aYx (sp : stabWPr_T) : Con := Con.fx [.clo 258 []] aN [] aN sp
noncomputable abbrev bDs : stabWPr_T := PIf.spec aLc
theorem aLd (p0 : cmpPr_T) (p1 : stabVPr_T) (c0 : Value) (d : List Pr) : vX Tryz.f257 [.clo 258 []] aN [] aN [(258, aS p0), (290, qV p1)] [] [] (((c0, (), ()), (d, ())) : VhL [.s (.ownC 0), .clo 258 []] × OShL aN) = ((p1 (((), Int.ofNat d.length, (), ()), d, ())).bind fun z => some ((c0, ()), z.2.1, ())) := by kernel_rfl
theorem aRh : aK Tryz.prog gl 257 (aYx bDs) := by
 refine cxk (I := aYw) (J := aLc) (fn := Tryz.f257) (G := [(258, aS dB), (290, qV aCr)]) (cI (aYv (GOk.nil))) (by kernel_rfl) (by kernel_rfl) (Lc := []) (nh := []) (aA (by kernel_rfl)) ?_ (fun c0 x o y h => by obtain ⟨a, h1, rfl⟩ := Option.map_eq_some_iff.1 h; exact Option.map_eq_some_iff.2 ⟨a, h1, rfl⟩)
 rintro ⟨⟨c0, _, _⟩, ⟨d, _⟩⟩
 refine (aLd ..).trans ?_
 show _ = ((jF d).val).map _
 unfold jF
 repeat' (first|(refine cD (fun _ =>?_); try dsimp only [aH, cond_true, cond_false, Bool.not_true, Bool.not_false, one, mI, eU, aCq]) | rfl)
end Go.Ax.Cd
