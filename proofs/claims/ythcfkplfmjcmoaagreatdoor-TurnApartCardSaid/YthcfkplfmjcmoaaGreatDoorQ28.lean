/- Merged. -/
import Derived.Test.YthcfkplfmjcmoaaGreatDoorQ27
namespace Go.Ax.Cd
open Go.Proofs
set_option linter.unusedVariables false
set_option maxRecDepth 100000
abbrev aF : List OSh := [.arr (.st .en)]
@[reducible] def cT (rec : List En → Int → Int → Int → T (List En)) : PIf (VhL [.s (.own 0), vi, vi, vi, .clo 263 []] × OShL aF) (VhL [] × OShL aF) where
 α := List En
 tr x := rec x.2.1 x.1.2.1 x.1.2.2.1 x.1.2.2.2.1
 enc x a := ((), (a, ()))
abbrev jK : List Vh := [.s (.ownC 0), vi, vi, vi, .clo 263 [], vi, vi, vi, vi, vi]
abbrev jL : List OSh := aF
noncomputable abbrev symEnL4fin : Fin := (Fin.one 1 Tryz.f299.ntmps (.exit 8) [0, 1, 2, 3, 4, 18, 19, 20] [.s (.ownC 0), vi, vi, vi, .clo 263 [], vi, vi, vi] aF)
noncomputable abbrev uA (sp : VhL jK × OShL jL → Option symEnL4fin.Y) : LCon := LCon.of Tryz.f299.ntmps [0, 1, 2, 3, 4, 18, 19, 20, 21, 22] jK jL symEnL4fin sp
def bS (v1 v2 v3 v4 v5 v8 : Int) (d : List En) (st : Int × Int) : T ((Int × Int) ⊕ (Int)) :=
 let v6 := st.1
 let v7 := st.2
 bif decide (v6 < v7) then
 bif inR (w64 (v8 - w64 (aB (aC (w64 (v6 + v7))) 1))) d.length then
 bif inR (w64 (aB (aC (w64 (v6 + v7))) 1)) d.length then
 (lJ (rdE (EK.st SN.en) d (w64 (v8 - w64 (aB (aC (w64 (v6 + v7))) 1)))) (rdE (EK.st SN.en) d (w64 (aB (aC (w64 (v6 + v7))) 1)))).bind fun x0 =>
 bif !decide (x0 < 0) then
 .ret (Sum.inl (w64 (w64 (aB (aC (w64 (v6 + v7))) 1) + 1), v7))
 else
 .ret (Sum.inl (v6, w64 (aB (aC (w64 (v6 + v7))) 1)))
 else
 .bot
 else
 .bot
 else
 .ret (Sum.inr v6)
@[reducible] def uB : PIf (VhL jK × OShL jL) symEnL4fin.Y where
 α := Int
 tr x := T.loop (bS x.1.2.1 x.1.2.2.1 x.1.2.2.2.1 x.1.2.2.2.2.2.1 x.1.2.2.2.2.2.2.1 x.1.2.2.2.2.2.2.2.2.2.1 x.2.1) FU (x.1.2.2.2.2.2.2.2.1, x.1.2.2.2.2.2.2.2.2.1)
 enc x a := ((x.1.1, x.1.2.1, x.1.2.2.1, x.1.2.2.2.1, (), x.1.2.2.2.2.2.1, x.1.2.2.2.2.2.2.1, a, ()), (x.2.1, ()))
theorem aLk (sp_cmpEn : cmpEn_T) (sp_rotEn : rotEn_T) (sp_symREn : VhL [.s (.own 0), vi, vi, vi, .clo 263 []] × OShL aF → Option (VhL [] × OShL aF)) (v0 : Value) (v1 v2 v3 v4 v5 v6 v7 v8 : Int) (d : List En) : gY 1 Tryz.f299 4 [0, 1, 2, 3, 4, 18, 19, 20, 21, 22] jK jL symEnL4fin [(263, aT sp_cmpEn), (305, dS sp_rotEn), (299, Con.fx [vi, vi, vi, .clo 263 []] aF [] aF sp_symREn)] [] [] (((v0, v1, v2, v3, (), v4, v5, v6, v7, v8, ()), (d, ())) : VhL jK × OShL jL) = (bif decide (v6 < v7) then bif inR (w64 (v8 - w64 (aB (aC (w64 (v6 + v7))) 1))) d.length then bif inR (w64 (aB (aC (w64 (v6 + v7))) 1)) d.length then (sp_cmpEn ((rdE (EK.st SN.en) d (w64 (v8 - w64 (aB (aC (w64 (v6 + v7))) 1))), rdE (EK.st SN.en) d (w64 (aB (aC (w64 (v6 + v7))) 1)), ()), ())).bind fun val => bif !decide (val.1.1 < 0) then some (Sum.inl ((v0, v1, v2, v3, (), v4, v5, w64 (w64 (aB (aC (w64 (v6 + v7))) 1) + 1), v7, v8, ()), d, ())) else some (Sum.inl ((v0, v1, v2, v3, (), v4, v5, v6, w64 (aB (aC (w64 (v6 + v7))) 1), v8, ()), d, ())) else none else none
else some (Sum.inr ((v0, v1, v2, v3, (), v4, v5, v6, ()), d, ()))) := by kernel_rfl
theorem aRl {rec : List En → Int → Int → Int → T (List En)} (symREn_ok : aK Tryz.prog gl 299 (Con.fx [vi, vi, vi, .clo 263 []] aF [] aF (PIf.spec (cT rec)))) : LOk Tryz.prog gl 1 (uA (PIf.spec uB)) (bE (body Tryz.f299) 4) := by
 refine lwk (Lc := []) (nh := []) (G := [(263, aT dC), (305, dS qH), (299, Con.fx [vi, vi, vi, .clo 263 []] aF [] aF (PIf.spec (cT rec)))]) (cJ (qY (GOk.cons ⟨Tryz.f299, body Tryz.f299, by kernel_rfl, by kernel_rfl, by kernel_rfl⟩ symREn_ok (GOk.nil)))) (aA (by kernel_rfl)) (Fin.one_ok _ _ _ _) ?_
 rintro ⟨⟨v0, v1, v2, v3, _, v4, v5, v6, v7, v8, _⟩, ⟨d, _⟩⟩ y hy
 refine ⟨_, aZ (eX := fun (st : Int × Int) => (let v6 := st.1; let v7 := st.2; ((v0, v1, v2, v3, (), v4, v5, v6, v7, v8, ()), (d, ())) : VhL jK × OShL jL)) (body := bS v1 v2 v3 v4 v5 v8 d) (fun st =>?_) _ (v6, v7) y hy⟩
 obtain ⟨v6, v7⟩ := st
 refine (aLk ..).trans ?_
 unfold bS
 repeat' (first|refine aP (fun _ =>?_) (fun _ =>?_)|(refine cD (fun _ =>?_); try dsimp only [aH, cond_true, cond_false, Bool.not_true, Bool.not_false, one, mI, eV, wN, cT]) | rfl)
abbrev jM : List Vh := [.s (.ownC 0), vi, vi]
abbrev jN : List OSh := aF
noncomputable abbrev symEnL3fin : Fin := (Fin.one 1 Tryz.f299.ntmps (.exit 6) [0] [.s (.ownC 0)] aF)
noncomputable abbrev uC (sp : VhL jM × OShL jN → Option symEnL3fin.Y) : LCon := LCon.of Tryz.f299.ntmps [0, 14, 17] jM jN symEnL3fin sp
def eG (v1 : Int) (st : Int × List En) : T ((Int × List En) ⊕ (List En)) :=
 let v2 := st.1
 let d := st.2
 bif decide (v2 > v1) then
 bif inR (w64 (v2 - 1)) d.length then
 bif inR v2 d.length then
 bif inR v2 d.length then
 bif inR (w64 (v2 - 1)) (wrE (EK.st SN.en) d v2 (rdE (EK.st SN.en) d (w64 (v2 - 1)))).length then
 .ret (Sum.inl (w64 (v2 - 1), wrE (EK.st SN.en) (wrE (EK.st SN.en) d v2 (rdE (EK.st SN.en) d (w64 (v2 - 1)))) (w64 (v2 - 1)) (rdE (EK.st SN.en) d v2)))
 else
 .bot
 else
 .bot
 else
 .bot
 else
 .bot
 else
 .ret (Sum.inr d)
@[reducible] def uD : PIf (VhL jM × OShL jN) symEnL3fin.Y where
 α := List En
 tr x := T.loop (eG x.1.2.1) FU (x.1.2.2.1, x.2.1)
 enc x a := ((x.1.1, ()), (a, ()))
theorem aLl (sp_cmpEn : cmpEn_T) (sp_rotEn : rotEn_T) (sp_symREn : VhL [.s (.own 0), vi, vi, vi, .clo 263 []] × OShL aF → Option (VhL [] × OShL aF)) (v0 : Value) (v1 v2 : Int) (d : List En) : gY 1 Tryz.f299 3 [0, 14, 17] jM jN symEnL3fin [(263, aT sp_cmpEn), (305, dS sp_rotEn), (299, Con.fx [vi, vi, vi, .clo 263 []] aF [] aF sp_symREn)] [] [] (((v0, v1, v2, ()), (d, ())) : VhL jM × OShL jN) = (bif decide (v2 > v1) then bif inR (w64 (v2 - 1)) d.length then bif inR v2 d.length then bif inR v2 d.length then bif inR (w64 (v2 - 1)) (wrE (EK.st SN.en) d v2 (rdE (EK.st SN.en) d (w64 (v2 - 1)))).length then some (Sum.inl ((v0, v1, w64 (v2 - 1), ()), wrE (EK.st SN.en) (wrE (EK.st SN.en) d v2 (rdE (EK.st SN.en) d (w64 (v2 - 1)))) (w64 (v2 - 1)) (rdE (EK.st SN.en) d v2), ())) else none else none else none else none
else some (Sum.inr ((v0, ()), d, ()))) := by kernel_rfl
theorem aRm {rec : List En → Int → Int → Int → T (List En)} (symREn_ok : aK Tryz.prog gl 299 (Con.fx [vi, vi, vi, .clo 263 []] aF [] aF (PIf.spec (cT rec)))) : LOk Tryz.prog gl 1 (uC (PIf.spec uD)) (bE (body Tryz.f299) 3) := by
 refine lwk (Lc := []) (nh := []) (G := [(263, aT dC), (305, dS qH), (299, Con.fx [vi, vi, vi, .clo 263 []] aF [] aF (PIf.spec (cT rec)))]) (cJ (qY (GOk.cons ⟨Tryz.f299, body Tryz.f299, by kernel_rfl, by kernel_rfl, by kernel_rfl⟩ symREn_ok (GOk.nil)))) (aA (by kernel_rfl)) (Fin.one_ok _ _ _ _) ?_
 rintro ⟨⟨v0, v1, v2, _⟩, ⟨d, _⟩⟩ y hy
 refine ⟨_, aZ (eX := fun (st : Int × List En) => (let v2 := st.1; let d := st.2; ((v0, v1, v2, ()), (d, ())) : VhL jM × OShL jN)) (body := eG v1) (fun st =>?_) _ (v2, d) y hy⟩
 obtain ⟨v2, d⟩ := st
 refine (aLl ..).trans ?_
 unfold eG
 repeat' (first|refine aP (fun _ =>?_) (fun _ =>?_) | rfl)
abbrev jO : List Vh := [.s (.ownC 0), vi, .clo 263 [], vi, vi]
abbrev jP : List OSh := aF
noncomputable abbrev symEnL2fin : Fin := (Fin.one 1 Tryz.f299.ntmps (.exit 4) [0, 2, 14] [.s (.ownC 0), vi, vi] aF)
noncomputable abbrev uE (sp : VhL jO × OShL jP → Option symEnL2fin.Y) : LCon := LCon.of Tryz.f299.ntmps [0, 2, 4, 14, 15] jO jP symEnL2fin sp
def eH (v1 : Int) (d : List En) (st : Int × Int) : T ((Int × Int) ⊕ (Int)) :=
 let v2 := st.1
 let v3 := st.2
 bif decide (v2 < v3) then
 bif inR v1 d.length then
 bif inR (w64 (aB (aC (w64 (v2 + v3))) 1)) d.length then
 (lJ (rdE (EK.st SN.en) d v1) (rdE (EK.st SN.en) d (w64 (aB (aC (w64 (v2 + v3))) 1)))).bind fun x0 =>
 bif !decide (x0 < 0) then
 .ret (Sum.inl (w64 (w64 (aB (aC (w64 (v2 + v3))) 1) + 1), v3))
 else
 .ret (Sum.inl (v2, w64 (aB (aC (w64 (v2 + v3))) 1)))
 else
 .bot
 else
 .bot
 else
 .ret (Sum.inr v2)
@[reducible] def uF : PIf (VhL jO × OShL jP) symEnL2fin.Y where
 α := Int
 tr x := T.loop (eH x.1.2.1 x.2.1) FU (x.1.2.2.2.1, x.1.2.2.2.2.1)
 enc x a := ((x.1.1, x.1.2.1, a, ()), (x.2.1, ()))
theorem aLm (sp_cmpEn : cmpEn_T) (sp_rotEn : rotEn_T) (sp_symREn : VhL [.s (.own 0), vi, vi, vi, .clo 263 []] × OShL aF → Option (VhL [] × OShL aF)) (v0 : Value) (v1 v2 v3 : Int) (d : List En) : gY 1 Tryz.f299 2 [0, 2, 4, 14, 15] jO jP symEnL2fin [(263, aT sp_cmpEn), (305, dS sp_rotEn), (299, Con.fx [vi, vi, vi, .clo 263 []] aF [] aF sp_symREn)] [] [] (((v0, v1, (), v2, v3, ()), (d, ())) : VhL jO × OShL jP) = (bif decide (v2 < v3) then bif inR v1 d.length then bif inR (w64 (aB (aC (w64 (v2 + v3))) 1)) d.length then (sp_cmpEn ((rdE (EK.st SN.en) d v1, rdE (EK.st SN.en) d (w64 (aB (aC (w64 (v2 + v3))) 1)), ()), ())).bind fun val => bif !decide (val.1.1 < 0) then some (Sum.inl ((v0, v1, (), w64 (w64 (aB (aC (w64 (v2 + v3))) 1) + 1), v3, ()), d, ())) else some (Sum.inl ((v0, v1, (), v2, w64 (aB (aC (w64 (v2 + v3))) 1), ()), d, ())) else none else none
else some (Sum.inr ((v0, v1, v2, ()), d, ()))) := by kernel_rfl
theorem aRn {rec : List En → Int → Int → Int → T (List En)} (symREn_ok : aK Tryz.prog gl 299 (Con.fx [vi, vi, vi, .clo 263 []] aF [] aF (PIf.spec (cT rec)))) : LOk Tryz.prog gl 1 (uE (PIf.spec uF)) (bE (body Tryz.f299) 2) := by
 refine lwk (Lc := []) (nh := []) (G := [(263, aT dC), (305, dS qH), (299, Con.fx [vi, vi, vi, .clo 263 []] aF [] aF (PIf.spec (cT rec)))]) (cJ (qY (GOk.cons ⟨Tryz.f299, body Tryz.f299, by kernel_rfl, by kernel_rfl, by kernel_rfl⟩ symREn_ok (GOk.nil)))) (aA (by kernel_rfl)) (Fin.one_ok _ _ _ _) ?_
 rintro ⟨⟨v0, v1, _, v2, v3, _⟩, ⟨d, _⟩⟩ y hy
 refine ⟨_, aZ (eX := fun (st : Int × Int) => (let v2 := st.1; let v3 := st.2; ((v0, v1, (), v2, v3, ()), (d, ())) : VhL jO × OShL jP)) (body := eH v1 d) (fun st =>?_) _ (v2, v3) y hy⟩
 obtain ⟨v2, v3⟩ := st
 refine (aLm ..).trans ?_
 unfold eH
 repeat' (first|refine aP (fun _ =>?_) (fun _ =>?_)|(refine cD (fun _ =>?_); try dsimp only [aH, cond_true, cond_false, Bool.not_true, Bool.not_false, one, mI, eV, wN, cT]) | rfl)
abbrev jQ : List Vh := [.s (.ownC 0), vi, vi]
abbrev jR : List OSh := aF
noncomputable abbrev symEnL1fin : Fin := (Fin.one 1 Tryz.f299.ntmps (.exit 2) [0] [.s (.ownC 0)] aF)
noncomputable abbrev uG (sp : VhL jQ × OShL jR → Option symEnL1fin.Y) : LCon := LCon.of Tryz.f299.ntmps [0, 10, 13] jQ jR symEnL1fin sp
def eI (v1 : Int) (st : Int × List En) : T ((Int × List En) ⊕ (List En)) :=
 let v2 := st.1
 let d := st.2
 bif decide (v2 < w64 (v1 - 1)) then
 bif inR (w64 (v2 + 1)) d.length then
 bif inR v2 d.length then
 bif inR v2 d.length then
 bif inR (w64 (v2 + 1)) (wrE (EK.st SN.en) d v2 (rdE (EK.st SN.en) d (w64 (v2 + 1)))).length then
 .ret (Sum.inl (w64 (v2 + 1), wrE (EK.st SN.en) (wrE (EK.st SN.en) d v2 (rdE (EK.st SN.en) d (w64 (v2 + 1)))) (w64 (v2 + 1)) (rdE (EK.st SN.en) d v2)))
 else
 .bot
 else
 .bot
 else
 .bot
 else
 .bot
 else
 .ret (Sum.inr d)
@[reducible] def uH : PIf (VhL jQ × OShL jR) symEnL1fin.Y where
 α := List En
 tr x := T.loop (eI x.1.2.1) FU (x.1.2.2.1, x.2.1)
 enc x a := ((x.1.1, ()), (a, ()))
theorem aLn (sp_cmpEn : cmpEn_T) (sp_rotEn : rotEn_T) (sp_symREn : VhL [.s (.own 0), vi, vi, vi, .clo 263 []] × OShL aF → Option (VhL [] × OShL aF)) (v0 : Value) (v1 v2 : Int) (d : List En) : gY 1 Tryz.f299 1 [0, 10, 13] jQ jR symEnL1fin [(263, aT sp_cmpEn), (305, dS sp_rotEn), (299, Con.fx [vi, vi, vi, .clo 263 []] aF [] aF sp_symREn)] [] [] (((v0, v1, v2, ()), (d, ())) : VhL jQ × OShL jR) = (bif decide (v2 < w64 (v1 - 1)) then bif inR (w64 (v2 + 1)) d.length then bif inR v2 d.length then bif inR v2 d.length then bif inR (w64 (v2 + 1)) (wrE (EK.st SN.en) d v2 (rdE (EK.st SN.en) d (w64 (v2 + 1)))).length then some (Sum.inl ((v0, v1, w64 (v2 + 1), ()), wrE (EK.st SN.en) (wrE (EK.st SN.en) d v2 (rdE (EK.st SN.en) d (w64 (v2 + 1)))) (w64 (v2 + 1)) (rdE (EK.st SN.en) d v2), ())) else none else none else none else none
else some (Sum.inr ((v0, ()), d, ()))) := by kernel_rfl
theorem aRo {rec : List En → Int → Int → Int → T (List En)} (symREn_ok : aK Tryz.prog gl 299 (Con.fx [vi, vi, vi, .clo 263 []] aF [] aF (PIf.spec (cT rec)))) : LOk Tryz.prog gl 1 (uG (PIf.spec uH)) (bE (body Tryz.f299) 1) := by
 refine lwk (Lc := []) (nh := []) (G := [(263, aT dC), (305, dS qH), (299, Con.fx [vi, vi, vi, .clo 263 []] aF [] aF (PIf.spec (cT rec)))]) (cJ (qY (GOk.cons ⟨Tryz.f299, body Tryz.f299, by kernel_rfl, by kernel_rfl, by kernel_rfl⟩ symREn_ok (GOk.nil)))) (aA (by kernel_rfl)) (Fin.one_ok _ _ _ _) ?_
 rintro ⟨⟨v0, v1, v2, _⟩, ⟨d, _⟩⟩ y hy
 refine ⟨_, aZ (eX := fun (st : Int × List En) => (let v2 := st.1; let d := st.2; ((v0, v1, v2, ()), (d, ())) : VhL jQ × OShL jR)) (body := eI v1) (fun st =>?_) _ (v2, d) y hy⟩
 obtain ⟨v2, d⟩ := st
 refine (aLn ..).trans ?_
 unfold eI
 repeat' (first|refine aP (fun _ =>?_) (fun _ =>?_) | rfl)
abbrev jS : List Vh := [.s (.ownC 0), vi, .clo 263 [], vi, vi]
abbrev jT : List OSh := aF
noncomputable abbrev symEnL0fin : Fin := (Fin.one 1 Tryz.f299.ntmps (.exit 0) [0, 1, 10] [.s (.ownC 0), vi, vi] aF)
noncomputable abbrev uI (sp : VhL jS × OShL jT → Option symEnL0fin.Y) : LCon := LCon.of Tryz.f299.ntmps [0, 1, 4, 10, 11] jS jT symEnL0fin sp
def eJ (v1 : Int) (d : List En) (st : Int × Int) : T ((Int × Int) ⊕ (Int)) :=
 let v2 := st.1
 let v3 := st.2
 bif decide (v2 < v3) then
 bif inR (w64 (aB (aC (w64 (v2 + v3))) 1)) d.length then
 bif inR v1 d.length then
 (lJ (rdE (EK.st SN.en) d (w64 (aB (aC (w64 (v2 + v3))) 1))) (rdE (EK.st SN.en) d v1)).bind fun x0 =>
 bif decide (x0 < 0) then
 .ret (Sum.inl (w64 (w64 (aB (aC (w64 (v2 + v3))) 1) + 1), v3))
 else
 .ret (Sum.inl (v2, w64 (aB (aC (w64 (v2 + v3))) 1)))
 else
 .bot
 else
 .bot
 else
 .ret (Sum.inr v2)
@[reducible] def uJ : PIf (VhL jS × OShL jT) symEnL0fin.Y where
 α := Int
 tr x := T.loop (eJ x.1.2.1 x.2.1) FU (x.1.2.2.2.1, x.1.2.2.2.2.1)
 enc x a := ((x.1.1, x.1.2.1, a, ()), (x.2.1, ()))
theorem aLo (sp_cmpEn : cmpEn_T) (sp_rotEn : rotEn_T) (sp_symREn : VhL [.s (.own 0), vi, vi, vi, .clo 263 []] × OShL aF → Option (VhL [] × OShL aF)) (v0 : Value) (v1 v2 v3 : Int) (d : List En) : gY 1 Tryz.f299 0 [0, 1, 4, 10, 11] jS jT symEnL0fin [(263, aT sp_cmpEn), (305, dS sp_rotEn), (299, Con.fx [vi, vi, vi, .clo 263 []] aF [] aF sp_symREn)] [] [] (((v0, v1, (), v2, v3, ()), (d, ())) : VhL jS × OShL jT) = (bif decide (v2 < v3) then bif inR (w64 (aB (aC (w64 (v2 + v3))) 1)) d.length then bif inR v1 d.length then (sp_cmpEn ((rdE (EK.st SN.en) d (w64 (aB (aC (w64 (v2 + v3))) 1)), rdE (EK.st SN.en) d v1, ()), ())).bind fun val => bif decide (val.1.1 < 0) then some (Sum.inl ((v0, v1, (), w64 (w64 (aB (aC (w64 (v2 + v3))) 1) + 1), v3, ()), d, ())) else some (Sum.inl ((v0, v1, (), v2, w64 (aB (aC (w64 (v2 + v3))) 1), ()), d, ())) else none else none
else some (Sum.inr ((v0, v1, v2, ()), d, ()))) := by kernel_rfl
theorem aRp {rec : List En → Int → Int → Int → T (List En)} (symREn_ok : aK Tryz.prog gl 299 (Con.fx [vi, vi, vi, .clo 263 []] aF [] aF (PIf.spec (cT rec)))) : LOk Tryz.prog gl 1 (uI (PIf.spec uJ)) (bE (body Tryz.f299) 0) := by
 refine lwk (Lc := []) (nh := []) (G := [(263, aT dC), (305, dS qH), (299, Con.fx [vi, vi, vi, .clo 263 []] aF [] aF (PIf.spec (cT rec)))]) (cJ (qY (GOk.cons ⟨Tryz.f299, body Tryz.f299, by kernel_rfl, by kernel_rfl, by kernel_rfl⟩ symREn_ok (GOk.nil)))) (aA (by kernel_rfl)) (Fin.one_ok _ _ _ _) ?_
 rintro ⟨⟨v0, v1, _, v2, v3, _⟩, ⟨d, _⟩⟩ y hy
 refine ⟨_, aZ (eX := fun (st : Int × Int) => (let v2 := st.1; let v3 := st.2; ((v0, v1, (), v2, v3, ()), (d, ())) : VhL jS × OShL jT)) (body := eJ v1 d) (fun st =>?_) _ (v2, v3) y hy⟩
 obtain ⟨v2, v3⟩ := st
 refine (aLo ..).trans ?_
 unfold eJ
 repeat' (first|refine aP (fun _ =>?_) (fun _ =>?_)|(refine cD (fun _ =>?_); try dsimp only [aH, cond_true, cond_false, Bool.not_true, Bool.not_false, one, mI, eV, wN, cT]) | rfl)
def fL (rec : List En → Int → Int → Int → T (List En)) (a m b : Int) (d : List En) : T (List En) :=
 bif w64 (m - a) == 1 then
 (T.loop (eJ a d) 4611686018427387904 (m, b)).bind fun x0 =>
 (T.loop (eI x0) 4611686018427387904 (a, d)).bind fun x1 =>
 .ret x1
 else
 bif w64 (b - m) == 1 then
 (T.loop (eH m d) 4611686018427387904 (a, m)).bind fun x0 =>
 (T.loop (eG x0) 4611686018427387904 (m, d)).bind fun x1 =>
 .ret x1
 else
 bif decide (m > w64 (aB (aC (w64 (a + b))) 1)) then
 (T.loop (bS a m b (w64 (aB (aC (w64 (a + b))) 1)) (w64 (w64 (aB (aC (w64 (a + b))) 1) + m)) (w64 (w64 (w64 (aB (aC (w64 (a + b))) 1) + m) - 1)) d) 4611686018427387904 (w64 (w64 (w64 (aB (aC (w64 (a + b))) 1) + m) - b), w64 (aB (aC (w64 (a + b))) 1))).bind fun x0 =>
 bif decide (x0 < m) then
 bif decide (m < w64 (w64 (w64 (aB (aC (w64 (a + b))) 1) + m) - x0)) then
 (lL x0 m (w64 (w64 (w64 (aB (aC (w64 (a + b))) 1) + m) - x0)) d).bind fun x1 =>
 bif decide (a < x0) then
 bif decide (x0 < w64 (aB (aC (w64 (a + b))) 1)) then
 (rec x1 a x0 (w64 (aB (aC (w64 (a + b))) 1))).bind fun x2 =>
 bif decide (w64 (aB (aC (w64 (a + b))) 1) < w64 (w64 (w64 (aB (aC (w64 (a + b))) 1) + m) - x0)) then
 bif decide (w64 (w64 (w64 (aB (aC (w64 (a + b))) 1) + m) - x0) < b) then
 (rec x2 (w64 (aB (aC (w64 (a + b))) 1)) (w64 (w64 (w64 (aB (aC (w64 (a + b))) 1) + m) - x0)) b).bind fun x3 =>
 .ret x3
 else
 .ret x2
 else
 .ret x2
 else
 bif decide (w64 (aB (aC (w64 (a + b))) 1) < w64 (w64 (w64 (aB (aC (w64 (a + b))) 1) + m) - x0)) then
 bif decide (w64 (w64 (w64 (aB (aC (w64 (a + b))) 1) + m) - x0) < b) then
 (rec x1 (w64 (aB (aC (w64 (a + b))) 1)) (w64 (w64 (w64 (aB (aC (w64 (a + b))) 1) + m) - x0)) b).bind fun x2 =>
 .ret x2
 else
 .ret x1
 else
 .ret x1
 else
 bif decide (w64 (aB (aC (w64 (a + b))) 1) < w64 (w64 (w64 (aB (aC (w64 (a + b))) 1) + m) - x0)) then
 bif decide (w64 (w64 (w64 (aB (aC (w64 (a + b))) 1) + m) - x0) < b) then
 (rec x1 (w64 (aB (aC (w64 (a + b))) 1)) (w64 (w64 (w64 (aB (aC (w64 (a + b))) 1) + m) - x0)) b).bind fun x2 =>
 .ret x2
 else
 .ret x1
 else
 .ret x1
 else
 bif decide (a < x0) then
 bif decide (x0 < w64 (aB (aC (w64 (a + b))) 1)) then
 (rec d a x0 (w64 (aB (aC (w64 (a + b))) 1))).bind fun x1 =>
 bif decide (w64 (aB (aC (w64 (a + b))) 1) < w64 (w64 (w64 (aB (aC (w64 (a + b))) 1) + m) - x0)) then
 bif decide (w64 (w64 (w64 (aB (aC (w64 (a + b))) 1) + m) - x0) < b) then
 (rec x1 (w64 (aB (aC (w64 (a + b))) 1)) (w64 (w64 (w64 (aB (aC (w64 (a + b))) 1) + m) - x0)) b).bind fun x2 =>
 .ret x2
 else
 .ret x1
 else
 .ret x1
 else
 bif decide (w64 (aB (aC (w64 (a + b))) 1) < w64 (w64 (w64 (aB (aC (w64 (a + b))) 1) + m) - x0)) then
 bif decide (w64 (w64 (w64 (aB (aC (w64 (a + b))) 1) + m) - x0) < b) then
 (rec d (w64 (aB (aC (w64 (a + b))) 1)) (w64 (w64 (w64 (aB (aC (w64 (a + b))) 1) + m) - x0)) b).bind fun x1 =>
 .ret x1
 else
 .ret d
 else
 .ret d
 else
 bif decide (w64 (aB (aC (w64 (a + b))) 1) < w64 (w64 (w64 (aB (aC (w64 (a + b))) 1) + m) - x0)) then
 bif decide (w64 (w64 (w64 (aB (aC (w64 (a + b))) 1) + m) - x0) < b) then
 (rec d (w64 (aB (aC (w64 (a + b))) 1)) (w64 (w64 (w64 (aB (aC (w64 (a + b))) 1) + m) - x0)) b).bind fun x1 =>
 .ret x1
 else
 .ret d
 else
 .ret d
 else
 bif decide (a < x0) then
 bif decide (x0 < w64 (aB (aC (w64 (a + b))) 1)) then
 (rec d a x0 (w64 (aB (aC (w64 (a + b))) 1))).bind fun x1 =>
 bif decide (w64 (aB (aC (w64 (a + b))) 1) < w64 (w64 (w64 (aB (aC (w64 (a + b))) 1) + m) - x0)) then
 bif decide (w64 (w64 (w64 (aB (aC (w64 (a + b))) 1) + m) - x0) < b) then
 (rec x1 (w64 (aB (aC (w64 (a + b))) 1)) (w64 (w64 (w64 (aB (aC (w64 (a + b))) 1) + m) - x0)) b).bind fun x2 =>
 .ret x2
 else
 .ret x1
 else
 .ret x1
 else
 bif decide (w64 (aB (aC (w64 (a + b))) 1) < w64 (w64 (w64 (aB (aC (w64 (a + b))) 1) + m) - x0)) then
 bif decide (w64 (w64 (w64 (aB (aC (w64 (a + b))) 1) + m) - x0) < b) then
 (rec d (w64 (aB (aC (w64 (a + b))) 1)) (w64 (w64 (w64 (aB (aC (w64 (a + b))) 1) + m) - x0)) b).bind fun x1 =>
 .ret x1
 else
 .ret d
 else
 .ret d
 else
 bif decide (w64 (aB (aC (w64 (a + b))) 1) < w64 (w64 (w64 (aB (aC (w64 (a + b))) 1) + m) - x0)) then
 bif decide (w64 (w64 (w64 (aB (aC (w64 (a + b))) 1) + m) - x0) < b) then
 (rec d (w64 (aB (aC (w64 (a + b))) 1)) (w64 (w64 (w64 (aB (aC (w64 (a + b))) 1) + m) - x0)) b).bind fun x1 =>
 .ret x1
 else
 .ret d
 else
 .ret d
 else
 (T.loop (bS a m b (w64 (aB (aC (w64 (a + b))) 1)) (w64 (w64 (aB (aC (w64 (a + b))) 1) + m)) (w64 (w64 (w64 (aB (aC (w64 (a + b))) 1) + m) - 1)) d) 4611686018427387904 (a, m)).bind fun x0 =>
 bif decide (x0 < m) then
 bif decide (m < w64 (w64 (w64 (aB (aC (w64 (a + b))) 1) + m) - x0)) then
 (lL x0 m (w64 (w64 (w64 (aB (aC (w64 (a + b))) 1) + m) - x0)) d).bind fun x1 =>
 bif decide (a < x0) then
 bif decide (x0 < w64 (aB (aC (w64 (a + b))) 1)) then
 (rec x1 a x0 (w64 (aB (aC (w64 (a + b))) 1))).bind fun x2 =>
 bif decide (w64 (aB (aC (w64 (a + b))) 1) < w64 (w64 (w64 (aB (aC (w64 (a + b))) 1) + m) - x0)) then
 bif decide (w64 (w64 (w64 (aB (aC (w64 (a + b))) 1) + m) - x0) < b) then
 (rec x2 (w64 (aB (aC (w64 (a + b))) 1)) (w64 (w64 (w64 (aB (aC (w64 (a + b))) 1) + m) - x0)) b).bind fun x3 =>
 .ret x3
 else
 .ret x2
 else
 .ret x2
 else
 bif decide (w64 (aB (aC (w64 (a + b))) 1) < w64 (w64 (w64 (aB (aC (w64 (a + b))) 1) + m) - x0)) then
 bif decide (w64 (w64 (w64 (aB (aC (w64 (a + b))) 1) + m) - x0) < b) then
 (rec x1 (w64 (aB (aC (w64 (a + b))) 1)) (w64 (w64 (w64 (aB (aC (w64 (a + b))) 1) + m) - x0)) b).bind fun x2 =>
 .ret x2
 else
 .ret x1
 else
 .ret x1
 else
 bif decide (w64 (aB (aC (w64 (a + b))) 1) < w64 (w64 (w64 (aB (aC (w64 (a + b))) 1) + m) - x0)) then
 bif decide (w64 (w64 (w64 (aB (aC (w64 (a + b))) 1) + m) - x0) < b) then
 (rec x1 (w64 (aB (aC (w64 (a + b))) 1)) (w64 (w64 (w64 (aB (aC (w64 (a + b))) 1) + m) - x0)) b).bind fun x2 =>
 .ret x2
 else
 .ret x1
 else
 .ret x1
 else
 bif decide (a < x0) then
 bif decide (x0 < w64 (aB (aC (w64 (a + b))) 1)) then
 (rec d a x0 (w64 (aB (aC (w64 (a + b))) 1))).bind fun x1 =>
 bif decide (w64 (aB (aC (w64 (a + b))) 1) < w64 (w64 (w64 (aB (aC (w64 (a + b))) 1) + m) - x0)) then
 bif decide (w64 (w64 (w64 (aB (aC (w64 (a + b))) 1) + m) - x0) < b) then
 (rec x1 (w64 (aB (aC (w64 (a + b))) 1)) (w64 (w64 (w64 (aB (aC (w64 (a + b))) 1) + m) - x0)) b).bind fun x2 =>
 .ret x2
 else
 .ret x1
 else
 .ret x1
 else
 bif decide (w64 (aB (aC (w64 (a + b))) 1) < w64 (w64 (w64 (aB (aC (w64 (a + b))) 1) + m) - x0)) then
 bif decide (w64 (w64 (w64 (aB (aC (w64 (a + b))) 1) + m) - x0) < b) then
 (rec d (w64 (aB (aC (w64 (a + b))) 1)) (w64 (w64 (w64 (aB (aC (w64 (a + b))) 1) + m) - x0)) b).bind fun x1 =>
 .ret x1
 else
 .ret d
 else
 .ret d
 else
 bif decide (w64 (aB (aC (w64 (a + b))) 1) < w64 (w64 (w64 (aB (aC (w64 (a + b))) 1) + m) - x0)) then
 bif decide (w64 (w64 (w64 (aB (aC (w64 (a + b))) 1) + m) - x0) < b) then
 (rec d (w64 (aB (aC (w64 (a + b))) 1)) (w64 (w64 (w64 (aB (aC (w64 (a + b))) 1) + m) - x0)) b).bind fun x1 =>
 .ret x1
 else
 .ret d
 else
 .ret d
 else
 bif decide (a < x0) then
 bif decide (x0 < w64 (aB (aC (w64 (a + b))) 1)) then
 (rec d a x0 (w64 (aB (aC (w64 (a + b))) 1))).bind fun x1 =>
 bif decide (w64 (aB (aC (w64 (a + b))) 1) < w64 (w64 (w64 (aB (aC (w64 (a + b))) 1) + m) - x0)) then
 bif decide (w64 (w64 (w64 (aB (aC (w64 (a + b))) 1) + m) - x0) < b) then
 (rec x1 (w64 (aB (aC (w64 (a + b))) 1)) (w64 (w64 (w64 (aB (aC (w64 (a + b))) 1) + m) - x0)) b).bind fun x2 =>
 .ret x2
 else
 .ret x1
 else
 .ret x1
 else
 bif decide (w64 (aB (aC (w64 (a + b))) 1) < w64 (w64 (w64 (aB (aC (w64 (a + b))) 1) + m) - x0)) then
 bif decide (w64 (w64 (w64 (aB (aC (w64 (a + b))) 1) + m) - x0) < b) then
 (rec d (w64 (aB (aC (w64 (a + b))) 1)) (w64 (w64 (w64 (aB (aC (w64 (a + b))) 1) + m) - x0)) b).bind fun x1 =>
 .ret x1
 else
 .ret d
 else
 .ret d
 else
 bif decide (w64 (aB (aC (w64 (a + b))) 1) < w64 (w64 (w64 (aB (aC (w64 (a + b))) 1) + m) - x0)) then
 bif decide (w64 (w64 (w64 (aB (aC (w64 (a + b))) 1) + m) - x0) < b) then
 (rec d (w64 (aB (aC (w64 (a + b))) 1)) (w64 (w64 (w64 (aB (aC (w64 (a + b))) 1) + m) - x0)) b).bind fun x1 =>
 .ret x1
 else
 .ret d
 else
 .ret d
@[reducible] def aVc (rec : List En → Int → Int → Int → T (List En)) : PIf (VhL [.s (.ownC 0), vi, vi, vi, .clo 263 []] × OShL aF) (VhL [.s (.ownC 0)] × OShL aF) where
 α := List En
 tr x := (fL rec) x.1.2.1 x.1.2.2.1 x.1.2.2.2.1 x.2.1
 enc x a := ((x.1.1, ()), (a, ()))
@[reducible] def bDx (rec : List En → Int → Int → Int → T (List En)) : PIf (VhL [.s (.own 0), vi, vi, vi, .clo 263 []] × OShL aF) (VhL [] × OShL aF) where
 α := List En
 tr x := (fL rec) x.1.2.1 x.1.2.2.1 x.1.2.2.2.1 x.2.1
 enc x a := ((), (a, ()))
abbrev bIh : Type := VhL [.s (.own 0), vi, vi, vi, .clo 263 []] × OShL aF → Option (VhL [] × OShL aF)
noncomputable abbrev bIi (sp : bIh) : Con := Con.fx [vi, vi, vi, .clo 263 []] aF [] aF sp
theorem aZc (sp_cmpEn : cmpEn_T) (sp_rotEn : rotEn_T) (sp_symREn : VhL [.s (.own 0), vi, vi, vi, .clo 263 []] × OShL aF → Option (VhL [] × OShL aF)) (sp_symEnL0 : VhL jS × OShL jT → Option symEnL0fin.Y) (sp_symEnL1 : VhL jQ × OShL jR → Option symEnL1fin.Y) (sp_symEnL2 : VhL jO × OShL jP → Option symEnL2fin.Y) (sp_symEnL3 : VhL jM × OShL jN → Option symEnL3fin.Y) (sp_symEnL4 : VhL jK × OShL jL → Option symEnL4fin.Y) (c0 : Value) (a m b : Int) (d : List En) : vX Tryz.f299 [vi, vi, vi, .clo 263 []] aF [] aF [(263, aT sp_cmpEn), (305, dS sp_rotEn), (299, Con.fx [vi, vi, vi, .clo 263 []] aF [] aF sp_symREn)] [(3, uI sp_symEnL0), (9, uG sp_symEnL1), (15, uE sp_symEnL2), (21, uC sp_symEnL3), (33, uA sp_symEnL4)] [] (((c0, a, m, b, (), ()), (d, ())) : VhL [.s (.ownC 0), vi, vi, vi, .clo 263 []] × OShL aF) = (bif w64 (m - a) == 1 then (sp_symEnL0 ((c0, a, (), m, b, ()), d, ())).bind fun val => (sp_symEnL1 ((val.1.1, val.1.2.2.1, val.1.2.1, ()), val.2.1, ())).bind fun val => some ((val.1.1, ()), val.2.1, ())
else
 bif w64 (b - m) == 1 then (sp_symEnL2 ((c0, m, (), a, m, ()), d, ())).bind fun val => (sp_symEnL3 ((val.1.1, val.1.2.2.1, val.1.2.1, ()), val.2.1, ())).bind fun val => some ((val.1.1, ()), val.2.1, ())
 else
  bif decide (m > w64 (aB (aC (w64 (a + b))) 1)) then
   (sp_symEnL4
      ((c0, a, m, b, (), w64 (aB (aC (w64 (a + b))) 1), w64 (w64 (aB (aC (w64 (a + b))) 1) + m), w64 (w64 (w64 (aB (aC (w64 (a + b))) 1) + m) - b), w64 (aB (aC (w64 (a + b))) 1),
        w64 (w64 (w64 (aB (aC (w64 (a + b))) 1) + m) - 1), ()),
       d, ())).bind
    fun val =>
    bif decide (val.1.2.2.2.2.2.2.2.1 < val.1.2.2.1) then
     bif decide (val.1.2.2.1 < w64 (val.1.2.2.2.2.2.2.1 - val.1.2.2.2.2.2.2.2.1)) then
      (sp_rotEn (((), val.1.2.2.2.2.2.2.2.1, val.1.2.2.1, w64 (val.1.2.2.2.2.2.2.1 - val.1.2.2.2.2.2.2.2.1), (), ()), val.2.1, ())).bind fun val_1 =>
       bif decide (val.1.2.1 < val.1.2.2.2.2.2.2.2.1) then
        bif decide (val.1.2.2.2.2.2.2.2.1 < val.1.2.2.2.2.2.1) then
         (sp_symREn (((), val.1.2.1, val.1.2.2.2.2.2.2.2.1, val.1.2.2.2.2.2.1, (), ()), val_1.2.1, ())).bind fun val_2 =>
          bif decide (val.1.2.2.2.2.2.1 < w64 (val.1.2.2.2.2.2.2.1 - val.1.2.2.2.2.2.2.2.1)) then
           bif decide (w64 (val.1.2.2.2.2.2.2.1 - val.1.2.2.2.2.2.2.2.1) < val.1.2.2.2.1) then
            (sp_symREn (((), val.1.2.2.2.2.2.1, w64 (val.1.2.2.2.2.2.2.1 - val.1.2.2.2.2.2.2.2.1), val.1.2.2.2.1, (), ()), val_2.2.1, ())).bind fun val_3 =>
             some ((val.1.1, ()), val_3.2.1, ())
           else some ((val.1.1, ()), val_2.2.1, ())
          else some ((val.1.1, ()), val_2.2.1, ())
        else
         bif decide (val.1.2.2.2.2.2.1 < w64 (val.1.2.2.2.2.2.2.1 - val.1.2.2.2.2.2.2.2.1)) then
          bif decide (w64 (val.1.2.2.2.2.2.2.1 - val.1.2.2.2.2.2.2.2.1) < val.1.2.2.2.1) then
           (sp_symREn (((), val.1.2.2.2.2.2.1, w64 (val.1.2.2.2.2.2.2.1 - val.1.2.2.2.2.2.2.2.1), val.1.2.2.2.1, (), ()), val_1.2.1, ())).bind fun val_2 =>
            some ((val.1.1, ()), val_2.2.1, ())
          else some ((val.1.1, ()), val_1.2.1, ())
         else some ((val.1.1, ()), val_1.2.1, ())
       else
        bif decide (val.1.2.2.2.2.2.1 < w64 (val.1.2.2.2.2.2.2.1 - val.1.2.2.2.2.2.2.2.1)) then
         bif decide (w64 (val.1.2.2.2.2.2.2.1 - val.1.2.2.2.2.2.2.2.1) < val.1.2.2.2.1) then
          (sp_symREn (((), val.1.2.2.2.2.2.1, w64 (val.1.2.2.2.2.2.2.1 - val.1.2.2.2.2.2.2.2.1), val.1.2.2.2.1, (), ()), val_1.2.1, ())).bind fun val_2 =>
           some ((val.1.1, ()), val_2.2.1, ())
         else some ((val.1.1, ()), val_1.2.1, ())
        else some ((val.1.1, ()), val_1.2.1, ())
     else
      bif decide (val.1.2.1 < val.1.2.2.2.2.2.2.2.1) then
       bif decide (val.1.2.2.2.2.2.2.2.1 < val.1.2.2.2.2.2.1) then
        (sp_symREn (((), val.1.2.1, val.1.2.2.2.2.2.2.2.1, val.1.2.2.2.2.2.1, (), ()), val.2.1, ())).bind fun val_1 =>
         bif decide (val.1.2.2.2.2.2.1 < w64 (val.1.2.2.2.2.2.2.1 - val.1.2.2.2.2.2.2.2.1)) then
          bif decide (w64 (val.1.2.2.2.2.2.2.1 - val.1.2.2.2.2.2.2.2.1) < val.1.2.2.2.1) then
           (sp_symREn (((), val.1.2.2.2.2.2.1, w64 (val.1.2.2.2.2.2.2.1 - val.1.2.2.2.2.2.2.2.1), val.1.2.2.2.1, (), ()), val_1.2.1, ())).bind fun val_2 =>
            some ((val.1.1, ()), val_2.2.1, ())
          else some ((val.1.1, ()), val_1.2.1, ())
         else some ((val.1.1, ()), val_1.2.1, ())
       else
        bif decide (val.1.2.2.2.2.2.1 < w64 (val.1.2.2.2.2.2.2.1 - val.1.2.2.2.2.2.2.2.1)) then
         bif decide (w64 (val.1.2.2.2.2.2.2.1 - val.1.2.2.2.2.2.2.2.1) < val.1.2.2.2.1) then
          (sp_symREn (((), val.1.2.2.2.2.2.1, w64 (val.1.2.2.2.2.2.2.1 - val.1.2.2.2.2.2.2.2.1), val.1.2.2.2.1, (), ()), val.2.1, ())).bind fun val_1 =>
           some ((val.1.1, ()), val_1.2.1, ())
         else some ((val.1.1, ()), val.2.1, ())
        else some ((val.1.1, ()), val.2.1, ())
      else
       bif decide (val.1.2.2.2.2.2.1 < w64 (val.1.2.2.2.2.2.2.1 - val.1.2.2.2.2.2.2.2.1)) then
        bif decide (w64 (val.1.2.2.2.2.2.2.1 - val.1.2.2.2.2.2.2.2.1) < val.1.2.2.2.1) then
         (sp_symREn (((), val.1.2.2.2.2.2.1, w64 (val.1.2.2.2.2.2.2.1 - val.1.2.2.2.2.2.2.2.1), val.1.2.2.2.1, (), ()), val.2.1, ())).bind fun val_1 =>
          some ((val.1.1, ()), val_1.2.1, ())
        else some ((val.1.1, ()), val.2.1, ())
       else some ((val.1.1, ()), val.2.1, ())
    else
     bif decide (val.1.2.1 < val.1.2.2.2.2.2.2.2.1) then
      bif decide (val.1.2.2.2.2.2.2.2.1 < val.1.2.2.2.2.2.1) then
       (sp_symREn (((), val.1.2.1, val.1.2.2.2.2.2.2.2.1, val.1.2.2.2.2.2.1, (), ()), val.2.1, ())).bind fun val_1 =>
        bif decide (val.1.2.2.2.2.2.1 < w64 (val.1.2.2.2.2.2.2.1 - val.1.2.2.2.2.2.2.2.1)) then
         bif decide (w64 (val.1.2.2.2.2.2.2.1 - val.1.2.2.2.2.2.2.2.1) < val.1.2.2.2.1) then
          (sp_symREn (((), val.1.2.2.2.2.2.1, w64 (val.1.2.2.2.2.2.2.1 - val.1.2.2.2.2.2.2.2.1), val.1.2.2.2.1, (), ()), val_1.2.1, ())).bind fun val_2 =>
           some ((val.1.1, ()), val_2.2.1, ())
         else some ((val.1.1, ()), val_1.2.1, ())
        else some ((val.1.1, ()), val_1.2.1, ())
      else
       bif decide (val.1.2.2.2.2.2.1 < w64 (val.1.2.2.2.2.2.2.1 - val.1.2.2.2.2.2.2.2.1)) then
        bif decide (w64 (val.1.2.2.2.2.2.2.1 - val.1.2.2.2.2.2.2.2.1) < val.1.2.2.2.1) then
         (sp_symREn (((), val.1.2.2.2.2.2.1, w64 (val.1.2.2.2.2.2.2.1 - val.1.2.2.2.2.2.2.2.1), val.1.2.2.2.1, (), ()), val.2.1, ())).bind fun val_1 =>
          some ((val.1.1, ()), val_1.2.1, ())
        else some ((val.1.1, ()), val.2.1, ())
       else some ((val.1.1, ()), val.2.1, ())
     else
      bif decide (val.1.2.2.2.2.2.1 < w64 (val.1.2.2.2.2.2.2.1 - val.1.2.2.2.2.2.2.2.1)) then
       bif decide (w64 (val.1.2.2.2.2.2.2.1 - val.1.2.2.2.2.2.2.2.1) < val.1.2.2.2.1) then
        (sp_symREn (((), val.1.2.2.2.2.2.1, w64 (val.1.2.2.2.2.2.2.1 - val.1.2.2.2.2.2.2.2.1), val.1.2.2.2.1, (), ()), val.2.1, ())).bind fun val_1 =>
         some ((val.1.1, ()), val_1.2.1, ())
       else some ((val.1.1, ()), val.2.1, ())
      else some ((val.1.1, ()), val.2.1, ())
  else
   (sp_symEnL4 ((c0, a, m, b, (), w64 (aB (aC (w64 (a + b))) 1), w64 (w64 (aB (aC (w64 (a + b))) 1) + m), a, m, w64 (w64 (w64 (aB (aC (w64 (a + b))) 1) + m) - 1), ()), d, ())).bind fun val =>
    bif decide (val.1.2.2.2.2.2.2.2.1 < val.1.2.2.1) then
     bif decide (val.1.2.2.1 < w64 (val.1.2.2.2.2.2.2.1 - val.1.2.2.2.2.2.2.2.1)) then
      (sp_rotEn (((), val.1.2.2.2.2.2.2.2.1, val.1.2.2.1, w64 (val.1.2.2.2.2.2.2.1 - val.1.2.2.2.2.2.2.2.1), (), ()), val.2.1, ())).bind fun val_1 =>
       bif decide (val.1.2.1 < val.1.2.2.2.2.2.2.2.1) then
        bif decide (val.1.2.2.2.2.2.2.2.1 < val.1.2.2.2.2.2.1) then
         (sp_symREn (((), val.1.2.1, val.1.2.2.2.2.2.2.2.1, val.1.2.2.2.2.2.1, (), ()), val_1.2.1, ())).bind fun val_2 =>
          bif decide (val.1.2.2.2.2.2.1 < w64 (val.1.2.2.2.2.2.2.1 - val.1.2.2.2.2.2.2.2.1)) then
           bif decide (w64 (val.1.2.2.2.2.2.2.1 - val.1.2.2.2.2.2.2.2.1) < val.1.2.2.2.1) then
            (sp_symREn (((), val.1.2.2.2.2.2.1, w64 (val.1.2.2.2.2.2.2.1 - val.1.2.2.2.2.2.2.2.1), val.1.2.2.2.1, (), ()), val_2.2.1, ())).bind fun val_3 =>
             some ((val.1.1, ()), val_3.2.1, ())
           else some ((val.1.1, ()), val_2.2.1, ())
          else some ((val.1.1, ()), val_2.2.1, ())
        else
         bif decide (val.1.2.2.2.2.2.1 < w64 (val.1.2.2.2.2.2.2.1 - val.1.2.2.2.2.2.2.2.1)) then
          bif decide (w64 (val.1.2.2.2.2.2.2.1 - val.1.2.2.2.2.2.2.2.1) < val.1.2.2.2.1) then
           (sp_symREn (((), val.1.2.2.2.2.2.1, w64 (val.1.2.2.2.2.2.2.1 - val.1.2.2.2.2.2.2.2.1), val.1.2.2.2.1, (), ()), val_1.2.1, ())).bind fun val_2 =>
            some ((val.1.1, ()), val_2.2.1, ())
          else some ((val.1.1, ()), val_1.2.1, ())
         else some ((val.1.1, ()), val_1.2.1, ())
       else
        bif decide (val.1.2.2.2.2.2.1 < w64 (val.1.2.2.2.2.2.2.1 - val.1.2.2.2.2.2.2.2.1)) then
         bif decide (w64 (val.1.2.2.2.2.2.2.1 - val.1.2.2.2.2.2.2.2.1) < val.1.2.2.2.1) then
          (sp_symREn (((), val.1.2.2.2.2.2.1, w64 (val.1.2.2.2.2.2.2.1 - val.1.2.2.2.2.2.2.2.1), val.1.2.2.2.1, (), ()), val_1.2.1, ())).bind fun val_2 =>
           some ((val.1.1, ()), val_2.2.1, ())
         else some ((val.1.1, ()), val_1.2.1, ())
        else some ((val.1.1, ()), val_1.2.1, ())
     else
      bif decide (val.1.2.1 < val.1.2.2.2.2.2.2.2.1) then
       bif decide (val.1.2.2.2.2.2.2.2.1 < val.1.2.2.2.2.2.1) then
        (sp_symREn (((), val.1.2.1, val.1.2.2.2.2.2.2.2.1, val.1.2.2.2.2.2.1, (), ()), val.2.1, ())).bind fun val_1 =>
         bif decide (val.1.2.2.2.2.2.1 < w64 (val.1.2.2.2.2.2.2.1 - val.1.2.2.2.2.2.2.2.1)) then
          bif decide (w64 (val.1.2.2.2.2.2.2.1 - val.1.2.2.2.2.2.2.2.1) < val.1.2.2.2.1) then
           (sp_symREn (((), val.1.2.2.2.2.2.1, w64 (val.1.2.2.2.2.2.2.1 - val.1.2.2.2.2.2.2.2.1), val.1.2.2.2.1, (), ()), val_1.2.1, ())).bind fun val_2 =>
            some ((val.1.1, ()), val_2.2.1, ())
          else some ((val.1.1, ()), val_1.2.1, ())
         else some ((val.1.1, ()), val_1.2.1, ())
       else
        bif decide (val.1.2.2.2.2.2.1 < w64 (val.1.2.2.2.2.2.2.1 - val.1.2.2.2.2.2.2.2.1)) then
         bif decide (w64 (val.1.2.2.2.2.2.2.1 - val.1.2.2.2.2.2.2.2.1) < val.1.2.2.2.1) then
          (sp_symREn (((), val.1.2.2.2.2.2.1, w64 (val.1.2.2.2.2.2.2.1 - val.1.2.2.2.2.2.2.2.1), val.1.2.2.2.1, (), ()), val.2.1, ())).bind fun val_1 =>
           some ((val.1.1, ()), val_1.2.1, ())
         else some ((val.1.1, ()), val.2.1, ())
        else some ((val.1.1, ()), val.2.1, ())
      else
       bif decide (val.1.2.2.2.2.2.1 < w64 (val.1.2.2.2.2.2.2.1 - val.1.2.2.2.2.2.2.2.1)) then
        bif decide (w64 (val.1.2.2.2.2.2.2.1 - val.1.2.2.2.2.2.2.2.1) < val.1.2.2.2.1) then
         (sp_symREn (((), val.1.2.2.2.2.2.1, w64 (val.1.2.2.2.2.2.2.1 - val.1.2.2.2.2.2.2.2.1), val.1.2.2.2.1, (), ()), val.2.1, ())).bind fun val_1 =>
          some ((val.1.1, ()), val_1.2.1, ())
        else some ((val.1.1, ()), val.2.1, ())
       else some ((val.1.1, ()), val.2.1, ())
    else
     bif decide (val.1.2.1 < val.1.2.2.2.2.2.2.2.1) then
      bif decide (val.1.2.2.2.2.2.2.2.1 < val.1.2.2.2.2.2.1) then
       (sp_symREn (((), val.1.2.1, val.1.2.2.2.2.2.2.2.1, val.1.2.2.2.2.2.1, (), ()), val.2.1, ())).bind fun val_1 =>
        bif decide (val.1.2.2.2.2.2.1 < w64 (val.1.2.2.2.2.2.2.1 - val.1.2.2.2.2.2.2.2.1)) then
         bif decide (w64 (val.1.2.2.2.2.2.2.1 - val.1.2.2.2.2.2.2.2.1) < val.1.2.2.2.1) then
          (sp_symREn (((), val.1.2.2.2.2.2.1, w64 (val.1.2.2.2.2.2.2.1 - val.1.2.2.2.2.2.2.2.1), val.1.2.2.2.1, (), ()), val_1.2.1, ())).bind fun val_2 =>
           some ((val.1.1, ()), val_2.2.1, ())
         else some ((val.1.1, ()), val_1.2.1, ())
        else some ((val.1.1, ()), val_1.2.1, ())
      else
       bif decide (val.1.2.2.2.2.2.1 < w64 (val.1.2.2.2.2.2.2.1 - val.1.2.2.2.2.2.2.2.1)) then
        bif decide (w64 (val.1.2.2.2.2.2.2.1 - val.1.2.2.2.2.2.2.2.1) < val.1.2.2.2.1) then
         (sp_symREn (((), val.1.2.2.2.2.2.1, w64 (val.1.2.2.2.2.2.2.1 - val.1.2.2.2.2.2.2.2.1), val.1.2.2.2.1, (), ()), val.2.1, ())).bind fun val_1 =>
          some ((val.1.1, ()), val_1.2.1, ())
        else some ((val.1.1, ()), val.2.1, ())
       else some ((val.1.1, ()), val.2.1, ())
     else
      bif decide (val.1.2.2.2.2.2.1 < w64 (val.1.2.2.2.2.2.2.1 - val.1.2.2.2.2.2.2.2.1)) then
       bif decide (w64 (val.1.2.2.2.2.2.2.1 - val.1.2.2.2.2.2.2.2.1) < val.1.2.2.2.1) then
        (sp_symREn (((), val.1.2.2.2.2.2.1, w64 (val.1.2.2.2.2.2.2.1 - val.1.2.2.2.2.2.2.2.1), val.1.2.2.2.1, (), ()), val.2.1, ())).bind fun val_1 =>
         some ((val.1.1, ()), val_1.2.1, ())
       else some ((val.1.1, ()), val.2.1, ())
      else some ((val.1.1, ()), val.2.1, ())) := by kernel_rfl
theorem bDy {rec : List En → Int → Int → Int → T (List En)} (symREn_ok : aK Tryz.prog gl 299 (Con.fx [vi, vi, vi, .clo 263 []] aF [] aF (PIf.spec (cT rec)))) : aK Tryz.prog gl 299 (bIi (PIf.spec (bDx rec))) := by
 refine cxk (I := (aVc rec)) (J := (bDx rec)) (fn := Tryz.f299) (G := [(263, aT dC), (305, dS qH), (299, Con.fx [vi, vi, vi, .clo 263 []] aF [] aF (PIf.spec (cT rec)))]) (cJ (qY (GOk.cons ⟨Tryz.f299, body Tryz.f299, by kernel_rfl, by kernel_rfl, by kernel_rfl⟩ symREn_ok (GOk.nil)))) (by kernel_rfl) (by kernel_rfl) (Lc := [(3, uI (PIf.spec uJ)), (9, uG (PIf.spec uH)), (15, uE (PIf.spec uF)), (21, uC (PIf.spec uD)), (33, uA (PIf.spec uB))]) (nh := []) (bD (bs := [bE (body Tryz.f299) 0, bE (body Tryz.f299) 1, bE (body Tryz.f299) 2, bE (body Tryz.f299) 3, bE (body Tryz.f299) 4]) (by kernel_rfl) ⟨bB (q := (3, uI (PIf.spec uJ))) (by kernel_rfl) (aRp symREn_ok), bB (q := (9, uG (PIf.spec uH))) (by kernel_rfl) (aRo symREn_ok), bB (q := (15, uE (PIf.spec uF))) (by kernel_rfl) (aRn symREn_ok), bB (q := (21, uC (PIf.spec uD))) (by kernel_rfl) (aRm symREn_ok), bB (q := (33, uA (PIf.spec uB))) (by kernel_rfl) (aRl symREn_ok), trivial⟩) ?_ (fun c0 x o y h => by obtain ⟨a, h1, rfl⟩ := Option.map_eq_some_iff.1 h; exact Option.map_eq_some_iff.2 ⟨a, h1, rfl⟩)
 rintro ⟨⟨c0, a, m, b, _, _⟩, ⟨d, _⟩⟩
 refine (aZc ..).trans ?_
 show _ = (((fL rec) a m b d).val).map ((aVc rec).enc ((c0, a, m, b, (), ()), (d, ())))
 unfold fL
 repeat' (first|refine aP (fun _ =>?_) (fun _ =>?_)|(refine cD (fun _ =>?_); try dsimp only [aH, cond_true, cond_false, Bool.not_true, Bool.not_false, one, mI, eV, wN, cT, uJ, uH, uF, uD, uB]) | rfl)
def qI : Nat → List En → Int → Int → Int → T (List En)
 | 0 => fun _ _ _ _ => .bot
 | k + 1 => fun d a m b => fL (qI k) a m b d
theorem aFc : ∀ k, aK Tryz.prog gl 299 (Con.fx [vi, vi, vi, .clo 263 []] aF [] aF (PIf.spec (cT (qI k))))
 | 0 => fun _ _ _ _ _ hy => by cases hy
 | k + 1 => bDy (aFc k)
def aAi : List En → Int → Int → Int → T (List En) := qI FU
@[reducible] def lM : PIf (VhL [.s (.own 0), vi, vi, vi, .clo 263 []] × OShL aF) (VhL [] × OShL aF) where
 α := List En
 tr x := aAi x.2.1 x.1.2.1 x.1.2.2.1 x.1.2.2.2.1
 enc x a := ((), (a, ()))
theorem qZ : aK Tryz.prog gl 299 (Con.fx [vi, vi, vi, .clo 263 []] aF [] aF (PIf.spec lM)) := aFc FU
abbrev aO : List OSh := [.arr (.st .en)]
abbrev dJ : List Vh := [.s (.ownC 0), vi, .clo 263 [], vi, vi, vi]
abbrev dK : List OSh := aO
noncomputable abbrev stabVEnL2fin : Fin := (Fin.one 1 Tryz.f292.ntmps (.exit 4) [0, 1, 2, 6, 7] [.s (.ownC 0), vi, .clo 263 [], vi, vi] aO)
noncomputable abbrev fV (sp : VhL dJ × OShL dK → Option stabVEnL2fin.Y) : LCon := LCon.of Tryz.f292.ntmps [0, 1, 2, 6, 7, 8] dJ dK stabVEnL2fin sp
def cF (v1 v2 : Int) (st : Int × Int × List En) : T ((Int × Int × List En) ⊕ (Int × List En)) :=
 let v3 := st.1
 let v4 := st.2.1
 let d := st.2.2
 bif decide (v4 ≤ v1) then
 (aAi d v3 (w64 (v3 + v2)) v4).bind fun x0 =>
 .ret (Sum.inl (v4, w64 (v4 + w64 (2 * v2)), x0))
 else
 .ret (Sum.inr (v3, d))
@[reducible] def fW : PIf (VhL dJ × OShL dK) stabVEnL2fin.Y where
 α := Int × List En
 tr x := T.loop (cF x.1.2.1 x.1.2.2.2.1) FU (x.1.2.2.2.2.1, x.1.2.2.2.2.2.1, x.2.1)
 enc x a := ((x.1.1, x.1.2.1, (), x.1.2.2.2.1, a.1, ()), (a.2, ()))
theorem aDt (p0 : cmpEn_T) (p1 : insEn_T) (p2 : VhL [.s (.own 0), vi, vi, vi, .clo 263 []] × OShL aO → Option (VhL [] × OShL aO)) (v0 : Value) (v1 v2 v3 v4 : Int) (d : List En) : gY 1 Tryz.f292 2 [0, 1, 2, 6, 7, 8] dJ dK stabVEnL2fin [(263, aT p0), (298, kD p1), (299, Con.fx [vi, vi, vi, .clo 263 []] aO [] aO p2)] [] [] (((v0, v1, (), v2, v3, v4, ()), (d, ())) : VhL dJ × OShL dK) = (bif decide (v4 ≤ v1) then (p2 (((), v3, w64 (v3 + v2), v4, (), ()), d, ())).bind fun z => some (Sum.inl ((v0, v1, (), v2, v4, w64 (v4 + w64 (2 * v2)), ()), z.2.1, ())) else some (Sum.inr ((v0, v1, (), v2, v3, ()), d, ()))) := by kernel_rfl
theorem uK : LOk Tryz.prog gl 1 (fV (PIf.spec fW)) (bE (body Tryz.f292) 2) := by
 refine lwk (Lc := []) (nh := []) (G := [(263, aT dC), (298, kD wP), (299, Con.fx [vi, vi, vi, .clo 263 []] aO [] aO (PIf.spec lM))]) (cJ (aAh (GOk.cons ⟨Tryz.f299, body Tryz.f299, by kernel_rfl, by kernel_rfl, by kernel_rfl⟩ qZ (GOk.nil)))) (aA (by kernel_rfl)) (Fin.one_ok _ _ _ _) ?_
 rintro ⟨⟨v0, v1, _, v2, v3, v4, _⟩, ⟨d, _⟩⟩ y hy
 refine ⟨_, aZ (eX := fun (st : Int × Int × List En) => (let v3 := st.1; let v4 := st.2.1; let d := st.2.2; ((v0, v1, (), v2, v3, v4, ()), (d, ())) : VhL dJ × OShL dK)) (body := cF v1 v2) (fun st =>?_) _ (v3, v4, d) y hy⟩
 obtain ⟨v3, v4, d⟩ := st
 refine (aDt ..).trans ?_
 unfold cF
 repeat' (first|refine aP (fun _ =>?_) (fun _ =>?_)|(refine cD (fun _ =>?_); try dsimp only [aH, cond_true, cond_false, Bool.not_true, Bool.not_false, one, mI, eV, wO, lM]) | rfl)
abbrev eK : List Vh := [.s (.ownC 0), vi, .clo 263 [], vi]
abbrev eM : List OSh := aO
noncomputable abbrev stabVEnL1fin : Fin := (Fin.one 1 Tryz.f292.ntmps (.exit 2) [0] [.s (.ownC 0)] aO)
noncomputable abbrev oS (sp : VhL eK × OShL eM → Option stabVEnL1fin.Y) : LCon := LCon.of Tryz.f292.ntmps [0, 1, 2, 6] eK eM stabVEnL1fin sp
def bN (v1 : Int) (st : Int × List En) : T ((Int × List En) ⊕ (List En)) :=
 let v2 := st.1
 let d := st.2
 bif decide (v2 < v1) then
 (T.loop (cF v1 v2) 4611686018427387904 (0, w64 (2 * v2), d)).bind fun x0 =>
 bif decide (w64 (x0.1 + v2) < v1) then
 (aAi x0.2 x0.1 (w64 (x0.1 + v2)) v1).bind fun x1 =>
 .ret (Sum.inl (w64 (v2 * 2), x1))
 else
 .ret (Sum.inl (w64 (v2 * 2), x0.2))
 else
 .ret (Sum.inr d)
@[reducible] def oT : PIf (VhL eK × OShL eM) stabVEnL1fin.Y where
 α := List En
 tr x := T.loop (bN x.1.2.1) FU (x.1.2.2.2.1, x.2.1)
 enc x a := ((x.1.1, ()), (a, ()))
theorem aDu (sp_cmpEn : cmpEn_T) (sp_insEn : insEn_T) (sp_symMEn : VhL [.s (.own 0), vi, vi, vi, .clo 263 []] × OShL aO → Option (VhL [] × OShL aO)) (sp_stabVEnL2 : VhL dJ × OShL dK → Option stabVEnL2fin.Y) (v0 : Value) (v1 v2 : Int) (d : List En) : gY 1 Tryz.f292 1 [0, 1, 2, 6] eK eM stabVEnL1fin [(263, aT sp_cmpEn), (298, kD sp_insEn), (299, Con.fx [vi, vi, vi, .clo 263 []] aO [] aO sp_symMEn)] [(9, fV sp_stabVEnL2)] [] (((v0, v1, (), v2, ()), (d, ())) : VhL eK × OShL eM) = (bif decide (v2 < v1) then (sp_stabVEnL2 ((v0, v1, (), v2, 0, w64 (2 * v2), ()), d, ())).bind fun val => bif decide (w64 (val.1.2.2.2.2.1 + val.1.2.2.2.1) < val.1.2.1) then (sp_symMEn (((), val.1.2.2.2.2.1, w64 (val.1.2.2.2.2.1 + val.1.2.2.2.1), val.1.2.1, (), ()), val.2.1, ())).bind fun val_1 => some (Sum.inl ((val.1.1, val.1.2.1, (), w64 (val.1.2.2.2.1 * 2), ()), val_1.2.1, ())) else some (Sum.inl ((val.1.1, val.1.2.1, (), w64 (val.1.2.2.2.1 * 2), ()), val.2.1, ()))
else some (Sum.inr ((v0, ()), d, ()))) := by kernel_rfl
theorem aHl : LOk Tryz.prog gl 1 (oS (PIf.spec oT)) (bE (body Tryz.f292) 1) := by
 refine lwk (Lc := [(9, fV (PIf.spec fW))]) (nh := []) (G := [(263, aT dC), (298, kD wP), (299, Con.fx [vi, vi, vi, .clo 263 []] aO [] aO (PIf.spec lM))]) (cJ (aAh (GOk.cons ⟨Tryz.f299, body Tryz.f299, by kernel_rfl, by kernel_rfl, by kernel_rfl⟩ qZ (GOk.nil)))) (bD (bs := [bE (body Tryz.f292) 2]) (by kernel_rfl) ⟨bB (q := (9, fV (PIf.spec fW))) (by kernel_rfl) uK, trivial⟩) (Fin.one_ok _ _ _ _) ?_
 rintro ⟨⟨v0, v1, _, v2, _⟩, ⟨d, _⟩⟩ y hy
 refine ⟨_, aZ (eX := fun (st : Int × List En) => (let v2 := st.1; let d := st.2; ((v0, v1, (), v2, ()), (d, ())) : VhL eK × OShL eM)) (body := bN v1) (fun st =>?_) _ (v2, d) y hy⟩
 obtain ⟨v2, d⟩ := st
 refine (aDu ..).trans ?_
 unfold bN
 repeat' (first|refine aP (fun _ =>?_) (fun _ =>?_)|(refine cD (fun _ =>?_); try dsimp only [aH, cond_true, cond_false, Bool.not_true, Bool.not_false, one, mI, eV, wO, lM, fW]) | rfl)
abbrev eN : List Vh := [.s (.ownC 0), vi, .clo 263 [], vi, vi, vi]
abbrev eP : List OSh := aO
noncomputable abbrev stabVEnL0fin : Fin := (Fin.one 1 Tryz.f292.ntmps (.exit 0) [0, 1, 2, 6, 7] [.s (.ownC 0), vi, .clo 263 [], vi, vi] aO)
noncomputable abbrev oU (sp : VhL eN × OShL eP → Option stabVEnL0fin.Y) : LCon := LCon.of Tryz.f292.ntmps [0, 1, 2, 6, 7, 8] eN eP stabVEnL0fin sp
def cX (v1 v2 : Int) (st : Int × Int × List En) : T ((Int × Int × List En) ⊕ (Int × List En)) :=
 let v3 := st.1
 let v4 := st.2.1
 let d := st.2.2
 bif decide (v4 ≤ v1) then
 (nI v3 v4 d).bind fun x0 =>
 .ret (Sum.inl (v4, w64 (v4 + v2), x0))
 else
 .ret (Sum.inr (v3, d))
@[reducible] def oV : PIf (VhL eN × OShL eP) stabVEnL0fin.Y where
 α := Int × List En
 tr x := T.loop (cX x.1.2.1 x.1.2.2.2.1) FU (x.1.2.2.2.2.1, x.1.2.2.2.2.2.1, x.2.1)
 enc x a := ((x.1.1, x.1.2.1, (), x.1.2.2.2.1, a.1, ()), (a.2, ()))
theorem aDv (p0 : cmpEn_T) (p1 : insEn_T) (p2 : VhL [.s (.own 0), vi, vi, vi, .clo 263 []] × OShL aO → Option (VhL [] × OShL aO)) (v0 : Value) (v1 v2 v3 v4 : Int) (d : List En) : gY 1 Tryz.f292 0 [0, 1, 2, 6, 7, 8] eN eP stabVEnL0fin [(263, aT p0), (298, kD p1), (299, Con.fx [vi, vi, vi, .clo 263 []] aO [] aO p2)] [] [] (((v0, v1, (), v2, v3, v4, ()), (d, ())) : VhL eN × OShL eP) = (bif decide (v4 ≤ v1) then (p1 (((), v3, v4, (), ()), d, ())).bind fun z => some (Sum.inl ((v0, v1, (), v2, v4, w64 (v4 + v2), ()), z.2.1, ())) else some (Sum.inr ((v0, v1, (), v2, v3, ()), d, ()))) := by kernel_rfl
theorem aHm : LOk Tryz.prog gl 1 (oU (PIf.spec oV)) (bE (body Tryz.f292) 0) := by
 refine lwk (Lc := []) (nh := []) (G := [(263, aT dC), (298, kD wP), (299, Con.fx [vi, vi, vi, .clo 263 []] aO [] aO (PIf.spec lM))]) (cJ (aAh (GOk.cons ⟨Tryz.f299, body Tryz.f299, by kernel_rfl, by kernel_rfl, by kernel_rfl⟩ qZ (GOk.nil)))) (aA (by kernel_rfl)) (Fin.one_ok _ _ _ _) ?_
 rintro ⟨⟨v0, v1, _, v2, v3, v4, _⟩, ⟨d, _⟩⟩ y hy
 refine ⟨_, aZ (eX := fun (st : Int × Int × List En) => (let v3 := st.1; let v4 := st.2.1; let d := st.2.2; ((v0, v1, (), v2, v3, v4, ()), (d, ())) : VhL eN × OShL eP)) (body := cX v1 v2) (fun st =>?_) _ (v3, v4, d) y hy⟩
 obtain ⟨v3, v4, d⟩ := st
 refine (aDv ..).trans ?_
 unfold cX
 repeat' (first|refine aP (fun _ =>?_) (fun _ =>?_)|(refine cD (fun _ =>?_); try dsimp only [aH, cond_true, cond_false, Bool.not_true, Bool.not_false, one, mI, eV, wO, lM]) | rfl)
def jU (n : Int) (d : List En) : T (List En) :=
 (T.loop (cX n 20) 4611686018427387904 (0, 20, d)).bind fun x0 =>
 (nI x0.1 n x0.2).bind fun x1 =>
 (T.loop (bN n) 4611686018427387904 (20, x1)).bind fun x2 =>
 .ret x2
@[reducible] def aZd : PIf (VhL [.s (.ownC 0), vi, .clo 263 []] × OShL aO) (VhL [.s (.ownC 0)] × OShL aO) where
 α := List En
 tr x := jU x.1.2.1 x.2.1
 enc x a := ((x.1.1, ()), (a, ()))
@[reducible] def aCt : PIf (VhL [.s (.own 0), vi, .clo 263 []] × OShL aO) (VhL [] × OShL aO) where
 α := List En
 tr x := jU x.1.2.1 x.2.1
 enc x a := ((), (a, ()))
abbrev stabVEn_T : Type := VhL [.s (.own 0), vi, .clo 263 []] × OShL aO → Option (VhL [] × OShL aO)
noncomputable abbrev rA (sp : stabVEn_T) : Con := Con.fx [vi, .clo 263 []] aO [] aO sp
noncomputable abbrev aCu : stabVEn_T := PIf.spec aCt
theorem aLp (p0 : cmpEn_T) (p1 : insEn_T) (p2 : VhL [.s (.own 0), vi, vi, vi, .clo 263 []] × OShL aO → Option (VhL [] × OShL aO)) (p3 : VhL eN × OShL eP → Option stabVEnL0fin.Y) (p4 : VhL dJ × OShL dK → Option stabVEnL2fin.Y) (p5 : VhL eK × OShL eM → Option stabVEnL1fin.Y) (c0 : Value) (n : Int) (d : List En) : vX Tryz.f292 [vi, .clo 263 []] aO [] aO [(263, aT p0), (298, kD p1), (299, Con.fx [vi, vi, vi, .clo 263 []] aO [] aO p2)] [(2, oU p3), (9, fV p4), (7, oS p5)] [] (((c0, n, (), ()), (d, ())) : VhL [.s (.ownC 0), vi, .clo 263 []] × OShL aO) = ((p3 ((c0, n, (), 20, 0, 20, ()), d, ())).bind fun z => (p1 (((), z.1.2.2.2.2.1, z.1.2.1, (), ()), z.2.1, ())).bind fun z1 => (p5 ((z.1.1, z.1.2.1, (), z.1.2.2.2.1, ()), z1.2.1, ())).bind fun z => some ((z.1.1, ()), z.2.1, ())) := by kernel_rfl
theorem aRq : aK Tryz.prog gl 292 (rA aCu) := by
 refine cxk (I := aZd) (J := aCt) (fn := Tryz.f292) (G := [(263, aT dC), (298, kD wP), (299, Con.fx [vi, vi, vi, .clo 263 []] aO [] aO (PIf.spec lM))]) (cJ (aAh (GOk.cons ⟨Tryz.f299, body Tryz.f299, by kernel_rfl, by kernel_rfl, by kernel_rfl⟩ qZ (GOk.nil)))) (by kernel_rfl) (by kernel_rfl) (Lc := [(2, oU (PIf.spec oV)), (9, fV (PIf.spec fW)), (7, oS (PIf.spec oT))]) (nh := []) (bD (bs := [bE (body Tryz.f292) 0, bE (body Tryz.f292) 1, bE (body Tryz.f292) 2]) (by kernel_rfl) ⟨bB (q := (2, oU (PIf.spec oV))) (by kernel_rfl) aHm, bB (q := (7, oS (PIf.spec oT))) (by kernel_rfl) aHl, bB (q := (9, fV (PIf.spec fW))) (by kernel_rfl) uK, trivial⟩) ?_ (fun c0 x o y h => by obtain ⟨a, h1, rfl⟩ := Option.map_eq_some_iff.1 h; exact Option.map_eq_some_iff.2 ⟨a, h1, rfl⟩)
 rintro ⟨⟨c0, n, _, _⟩, ⟨d, _⟩⟩
 refine (aLp ..).trans ?_
 show _ = ((jU n d).val).map _
 unfold jU
 repeat' (first|(refine cD (fun _ =>?_); try dsimp only [aH, cond_true, cond_false, Bool.not_true, Bool.not_false, one, mI, eV, wO, lM, oV, fW, oT]) | rfl)
theorem aZe {G : List (Nat × Con)} (h : GOk Tryz.prog gl G) : GOk Tryz.prog gl ((292, rA aCu) :: G) := GOk.cons ⟨Tryz.f292, body Tryz.f292, by kernel_rfl, by kernel_rfl, by kernel_rfl⟩ aRq h
def jV (d : List En) : T (List En) :=
 (jU (Int.ofNat d.length) d).bind fun x0 =>
 .ret x0
@[reducible] def aZf : PIf (VhL [.s (.ownC 0), .clo 263 []] × OShL aO) (VhL [.s (.ownC 0)] × OShL aO) where
 α := List En
 tr x := jV x.2.1
 enc x a := ((x.1.1, ()), (a, ()))
@[reducible] def aLq : PIf (VhL [.s (.own 0), .clo 263 []] × OShL aO) (VhL [] × OShL aO) where
 α := List En
 tr x := jV x.2.1
 enc x a := ((), (a, ()))
abbrev stabWEn_T : Type := VhL [.s (.own 0), .clo 263 []] × OShL aO → Option (VhL [] × OShL aO)
noncomputable abbrev aZg (sp : stabWEn_T) : Con := Con.fx [.clo 263 []] aO [] aO sp
noncomputable abbrev bDz : stabWEn_T := PIf.spec aLq
theorem aLr (p0 : cmpEn_T) (p1 : stabVEn_T) (c0 : Value) (d : List En) : vX Tryz.f262 [.clo 263 []] aO [] aO [(263, aT p0), (292, rA p1)] [] [] (((c0, (), ()), (d, ())) : VhL [.s (.ownC 0), .clo 263 []] × OShL aO) = ((p1 (((), Int.ofNat d.length, (), ()), d, ())).bind fun z => some ((c0, ()), z.2.1, ())) := by kernel_rfl
theorem aRr : aK Tryz.prog gl 262 (aZg bDz) := by
 refine cxk (I := aZf) (J := aLq) (fn := Tryz.f262) (G := [(263, aT dC), (292, rA aCu)]) (cJ (aZe (GOk.nil))) (by kernel_rfl) (by kernel_rfl) (Lc := []) (nh := []) (aA (by kernel_rfl)) ?_ (fun c0 x o y h => by obtain ⟨a, h1, rfl⟩ := Option.map_eq_some_iff.1 h; exact Option.map_eq_some_iff.2 ⟨a, h1, rfl⟩)
 rintro ⟨⟨c0, _, _⟩, ⟨d, _⟩⟩
 refine (aLr ..).trans ?_
 show _ = ((jV d).val).map _
 unfold jV
 repeat' (first|(refine cD (fun _ =>?_); try dsimp only [aH, cond_true, cond_false, Bool.not_true, Bool.not_false, one, mI, eV, aCt]) | rfl)
end Go.Ax.Cd
