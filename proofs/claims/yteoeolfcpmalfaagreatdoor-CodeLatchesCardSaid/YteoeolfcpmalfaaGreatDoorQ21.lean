/- The package code by contracts (printed by wip/tools/con3.py). -/
import Derived.Test.YteoeolfcpmalfaaGreatDoorQ20
import Derived.Test.YteoeolfcpmalfaaGreatDoorQ13
namespace Go.Ax.Cd
open Go.Proofs
set_option linter.unusedVariables false
set_option maxRecDepth 100000
abbrev cdv3q0 : List OSh := [.arr (.st .pr)]
abbrev stabVPrL2vs : List Vh := [.s (.ownC 0), vi, .clo 93 [], vi, vi, vi]
abbrev stabVPrL2os : List OSh := cdv3q0
noncomputable abbrev stabVPrL2fin : Fin := (Fin.one 1 Tryz.f115.ntmps (.exit 4) [0, 1, 2, 6, 7] [.s (.ownC 0), vi, .clo 93 [], vi, vi] cdv3q0)
def stabVPrL2Step (v1 : Int) (v2 : Int) (st : Int × Int × List Pr) : T ((Int × Int × List Pr) ⊕ (Int × List Pr)) :=
 let v3 := st.1
 let v4 := st.2.1
 let d := st.2.2
 bif decide (v4 ≤ v1) then
 (sortMPr d v3 (w64 (v3 + v2)) v4).bind fun x0 =>
 .ret (Sum.inl (v4, w64 (v4 + w64 (2 * v2)), x0))
 else
 .ret (Sum.inr (v3, d))
@[reducible] def stabVPrL2I : PIf (VhL stabVPrL2vs × OShL stabVPrL2os) stabVPrL2fin.Y where
  α := Int × List Pr
  tr x := T.loop (stabVPrL2Step x.1.2.1 x.1.2.2.2.1) FU (x.1.2.2.2.2.1, x.1.2.2.2.2.2.1, x.2.1)
  enc x a := ((x.1.1, x.1.2.1, (), x.1.2.2.2.1, a.1, ()), (a.2, ()))
theorem stabVPrL2_raw (sp_cmpPr : cmpPr_T) (sp_insPr : insPr_T) (sp_symMPr : VhL [.s (.own 0), vi, vi, vi, .clo 93 []] × OShL cdv3q0 → Option (VhL [] × OShL cdv3q0)) (v0 : Value) (v1 : Int) (v2 : Int) (v3 : Int) (v4 : Int) (d : List Pr) : runW 1 Tryz.f115 2 [0, 1, 2, 6, 7, 8] stabVPrL2vs stabVPrL2os stabVPrL2fin [(93, cmpPr_C sp_cmpPr), (121, insPr_C sp_insPr), (122, Con.fx [vi, vi, vi, .clo 93 []] cdv3q0 [] cdv3q0 sp_symMPr)] [] [] (((v0, v1, (), v2, v3, v4, ()), (d, ())) : VhL stabVPrL2vs × OShL stabVPrL2os) = (bif decide (v4 ≤ v1) then (sp_symMPr (((), v3, w64 (v3 + v2), v4, (), ()), d, ())).bind fun val => some (Sum.inl ((v0, v1, (), v2, v4, w64 (v4 + w64 (2 * v2)), ()), val.2.1, ())) else some (Sum.inr ((v0, v1, (), v2, v3, ()), d, ()))) := by kernel_rfl
theorem stabVPrL2_ok : LOk Tryz.prog gl 1 (LCon.of Tryz.f115.ntmps [0, 1, 2, 6, 7, 8] stabVPrL2vs stabVPrL2os stabVPrL2fin (PIf.spec stabVPrL2I)) (getL (body Tryz.f115) 2) := by
  refine lwk (Lc := []) (nh := []) (G := [(93, cmpPr_C (PIf.spec cmpPrI)), (121, insPr_C (PIf.spec insPrI)), (122, Con.fx [vi, vi, vi, .clo 93 []] cdv3q0 [] cdv3q0 (PIf.spec symMPrI))]) (GOk.cons cmpPr_g cmpPr_ok (GOk.cons insPr_g insPr_ok (GOk.cons ⟨Tryz.f122, body Tryz.f122, by kernel_rfl, by kernel_rfl, by kernel_rfl⟩ symMPr_ok (GOk.nil)))) (noloopN (by kernel_rfl)) (Fin.one_ok _ _ _ _) ?_
  rintro ⟨⟨v0, v1, _, v2, v3, v4, _⟩, ⟨d, _⟩⟩ y hy
  refine ⟨_, loopP_ok (eX := fun (st : Int × Int × List Pr) => (let v3 := st.1; let v4 := st.2.1; let d := st.2.2; ((v0, v1, (), v2, v3, v4, ()), (d, ())) : VhL stabVPrL2vs × OShL stabVPrL2os)) (body := stabVPrL2Step v1 v2) (fun st => ?_) _ (v3, v4, d) y hy⟩
  obtain ⟨v3, v4, d⟩ := st
  refine (stabVPrL2_raw (PIf.spec cmpPrI) (PIf.spec insPrI) (PIf.spec symMPrI) v0 v1 v2 v3 v4 d).trans ?_
  unfold stabVPrL2Step
  repeat' (first | refine cond_outP (fun _ => ?_) (fun _ => ?_) | (refine bindP (fun _ => ?_); try dsimp only [selim, cond_true, cond_false, Bool.not_true, Bool.not_false, one, mI, cmpPrI, insPrI, symMPrI]) | rfl)
abbrev stabVPrL1vs : List Vh := [.s (.ownC 0), vi, .clo 93 [], vi]
abbrev stabVPrL1os : List OSh := cdv3q0
noncomputable abbrev stabVPrL1fin : Fin := (Fin.one 1 Tryz.f115.ntmps (.exit 2) [0] [.s (.ownC 0)] cdv3q0)
def stabVPrL1Step (v1 : Int) (st : Int × List Pr) : T ((Int × List Pr) ⊕ (List Pr)) :=
 let v2 := st.1
 let d := st.2
 bif decide (v2 < v1) then
 (T.loop (stabVPrL2Step v1 v2) 4611686018427387904 (0, w64 (2 * v2), d)).bind fun x0 =>
 bif decide (w64 (x0.1 + v2) < v1) then
 (sortMPr x0.2 x0.1 (w64 (x0.1 + v2)) v1).bind fun x1 =>
 .ret (Sum.inl (w64 (v2 * 2), x1))
 else
 .ret (Sum.inl (w64 (v2 * 2), x0.2))
 else
 .ret (Sum.inr d)
@[reducible] def stabVPrL1I : PIf (VhL stabVPrL1vs × OShL stabVPrL1os) stabVPrL1fin.Y where
  α := List Pr
  tr x := T.loop (stabVPrL1Step x.1.2.1) FU (x.1.2.2.2.1, x.2.1)
  enc x a := ((x.1.1, ()), (a, ()))
theorem stabVPrL1_raw (sp_cmpPr : cmpPr_T) (sp_insPr : insPr_T) (sp_symMPr : VhL [.s (.own 0), vi, vi, vi, .clo 93 []] × OShL cdv3q0 → Option (VhL [] × OShL cdv3q0)) (sp_stabVPrL2 : VhL stabVPrL2vs × OShL stabVPrL2os → Option stabVPrL2fin.Y) (v0 : Value) (v1 : Int) (v2 : Int) (d : List Pr) : runW 1 Tryz.f115 1 [0, 1, 2, 6] stabVPrL1vs stabVPrL1os stabVPrL1fin [(93, cmpPr_C sp_cmpPr), (121, insPr_C sp_insPr), (122, Con.fx [vi, vi, vi, .clo 93 []] cdv3q0 [] cdv3q0 sp_symMPr)] [(9, LCon.of Tryz.f115.ntmps [0, 1, 2, 6, 7, 8] stabVPrL2vs stabVPrL2os stabVPrL2fin sp_stabVPrL2)] [] (((v0, v1, (), v2, ()), (d, ())) : VhL stabVPrL1vs × OShL stabVPrL1os) = (bif decide (v2 < v1) then (sp_stabVPrL2 ((v0, v1, (), v2, 0, w64 (2 * v2), ()), d, ())).bind fun val => bif decide (w64 (val.1.2.2.2.2.1 + val.1.2.2.2.1) < val.1.2.1) then (sp_symMPr (((), val.1.2.2.2.2.1, w64 (val.1.2.2.2.2.1 + val.1.2.2.2.1), val.1.2.1, (), ()), val.2.1, ())).bind fun val_1 => some (Sum.inl ((val.1.1, val.1.2.1, (), w64 (val.1.2.2.2.1 * 2), ()), val_1.2.1, ())) else some (Sum.inl ((val.1.1, val.1.2.1, (), w64 (val.1.2.2.2.1 * 2), ()), val.2.1, ()))
else some (Sum.inr ((v0, ()), d, ()))) := by kernel_rfl
theorem stabVPrL1_ok : LOk Tryz.prog gl 1 (LCon.of Tryz.f115.ntmps [0, 1, 2, 6] stabVPrL1vs stabVPrL1os stabVPrL1fin (PIf.spec stabVPrL1I)) (getL (body Tryz.f115) 1) := by
  refine lwk (Lc := [(9, LCon.of Tryz.f115.ntmps [0, 1, 2, 6, 7, 8] stabVPrL2vs stabVPrL2os stabVPrL2fin (PIf.spec stabVPrL2I))]) (nh := []) (G := [(93, cmpPr_C (PIf.spec cmpPrI)), (121, insPr_C (PIf.spec insPrI)), (122, Con.fx [vi, vi, vi, .clo 93 []] cdv3q0 [] cdv3q0 (PIf.spec symMPrI))]) (GOk.cons cmpPr_g cmpPr_ok (GOk.cons insPr_g insPr_ok (GOk.cons ⟨Tryz.f122, body Tryz.f122, by kernel_rfl, by kernel_rfl, by kernel_rfl⟩ symMPr_ok (GOk.nil)))) (lcok (bs := [getL (body Tryz.f115) 2]) (by kernel_rfl) ⟨lone_ok (q := (9, LCon.of Tryz.f115.ntmps [0, 1, 2, 6, 7, 8] stabVPrL2vs stabVPrL2os stabVPrL2fin (PIf.spec stabVPrL2I))) (by kernel_rfl) stabVPrL2_ok, trivial⟩) (Fin.one_ok _ _ _ _) ?_
  rintro ⟨⟨v0, v1, _, v2, _⟩, ⟨d, _⟩⟩ y hy
  refine ⟨_, loopP_ok (eX := fun (st : Int × List Pr) => (let v2 := st.1; let d := st.2; ((v0, v1, (), v2, ()), (d, ())) : VhL stabVPrL1vs × OShL stabVPrL1os)) (body := stabVPrL1Step v1) (fun st => ?_) _ (v2, d) y hy⟩
  obtain ⟨v2, d⟩ := st
  refine (stabVPrL1_raw (PIf.spec cmpPrI) (PIf.spec insPrI) (PIf.spec symMPrI) (PIf.spec stabVPrL2I) v0 v1 v2 d).trans ?_
  unfold stabVPrL1Step
  repeat' (first | refine cond_outP (fun _ => ?_) (fun _ => ?_) | (refine bindP (fun _ => ?_); try dsimp only [selim, cond_true, cond_false, Bool.not_true, Bool.not_false, one, mI, cmpPrI, insPrI, symMPrI, stabVPrL2I]) | rfl)
abbrev stabVPrL0vs : List Vh := [.s (.ownC 0), vi, .clo 93 [], vi, vi, vi]
abbrev stabVPrL0os : List OSh := cdv3q0
noncomputable abbrev stabVPrL0fin : Fin := (Fin.one 1 Tryz.f115.ntmps (.exit 0) [0, 1, 2, 6, 7] [.s (.ownC 0), vi, .clo 93 [], vi, vi] cdv3q0)
def stabVPrL0Step (v1 : Int) (v2 : Int) (st : Int × Int × List Pr) : T ((Int × Int × List Pr) ⊕ (Int × List Pr)) :=
 let v3 := st.1
 let v4 := st.2.1
 let d := st.2.2
 bif decide (v4 ≤ v1) then
 (insPrTr v3 v4 d).bind fun x0 =>
 .ret (Sum.inl (v4, w64 (v4 + v2), x0))
 else
 .ret (Sum.inr (v3, d))
@[reducible] def stabVPrL0I : PIf (VhL stabVPrL0vs × OShL stabVPrL0os) stabVPrL0fin.Y where
  α := Int × List Pr
  tr x := T.loop (stabVPrL0Step x.1.2.1 x.1.2.2.2.1) FU (x.1.2.2.2.2.1, x.1.2.2.2.2.2.1, x.2.1)
  enc x a := ((x.1.1, x.1.2.1, (), x.1.2.2.2.1, a.1, ()), (a.2, ()))
theorem stabVPrL0_raw (sp_cmpPr : cmpPr_T) (sp_insPr : insPr_T) (sp_symMPr : VhL [.s (.own 0), vi, vi, vi, .clo 93 []] × OShL cdv3q0 → Option (VhL [] × OShL cdv3q0)) (v0 : Value) (v1 : Int) (v2 : Int) (v3 : Int) (v4 : Int) (d : List Pr) : runW 1 Tryz.f115 0 [0, 1, 2, 6, 7, 8] stabVPrL0vs stabVPrL0os stabVPrL0fin [(93, cmpPr_C sp_cmpPr), (121, insPr_C sp_insPr), (122, Con.fx [vi, vi, vi, .clo 93 []] cdv3q0 [] cdv3q0 sp_symMPr)] [] [] (((v0, v1, (), v2, v3, v4, ()), (d, ())) : VhL stabVPrL0vs × OShL stabVPrL0os) = (bif decide (v4 ≤ v1) then (sp_insPr (((), v3, v4, (), ()), d, ())).bind fun val => some (Sum.inl ((v0, v1, (), v2, v4, w64 (v4 + v2), ()), val.2.1, ())) else some (Sum.inr ((v0, v1, (), v2, v3, ()), d, ()))) := by kernel_rfl
theorem stabVPrL0_ok : LOk Tryz.prog gl 1 (LCon.of Tryz.f115.ntmps [0, 1, 2, 6, 7, 8] stabVPrL0vs stabVPrL0os stabVPrL0fin (PIf.spec stabVPrL0I)) (getL (body Tryz.f115) 0) := by
  refine lwk (Lc := []) (nh := []) (G := [(93, cmpPr_C (PIf.spec cmpPrI)), (121, insPr_C (PIf.spec insPrI)), (122, Con.fx [vi, vi, vi, .clo 93 []] cdv3q0 [] cdv3q0 (PIf.spec symMPrI))]) (GOk.cons cmpPr_g cmpPr_ok (GOk.cons insPr_g insPr_ok (GOk.cons ⟨Tryz.f122, body Tryz.f122, by kernel_rfl, by kernel_rfl, by kernel_rfl⟩ symMPr_ok (GOk.nil)))) (noloopN (by kernel_rfl)) (Fin.one_ok _ _ _ _) ?_
  rintro ⟨⟨v0, v1, _, v2, v3, v4, _⟩, ⟨d, _⟩⟩ y hy
  refine ⟨_, loopP_ok (eX := fun (st : Int × Int × List Pr) => (let v3 := st.1; let v4 := st.2.1; let d := st.2.2; ((v0, v1, (), v2, v3, v4, ()), (d, ())) : VhL stabVPrL0vs × OShL stabVPrL0os)) (body := stabVPrL0Step v1 v2) (fun st => ?_) _ (v3, v4, d) y hy⟩
  obtain ⟨v3, v4, d⟩ := st
  refine (stabVPrL0_raw (PIf.spec cmpPrI) (PIf.spec insPrI) (PIf.spec symMPrI) v0 v1 v2 v3 v4 d).trans ?_
  unfold stabVPrL0Step
  repeat' (first | refine cond_outP (fun _ => ?_) (fun _ => ?_) | (refine bindP (fun _ => ?_); try dsimp only [selim, cond_true, cond_false, Bool.not_true, Bool.not_false, one, mI, cmpPrI, insPrI, symMPrI]) | rfl)
def stabVPrTr (n : Int) (d : List Pr) : T (List Pr) :=
 (T.loop (stabVPrL0Step n 20) 4611686018427387904 (0, 20, d)).bind fun x0 =>
 (insPrTr x0.1 n x0.2).bind fun x1 =>
 (T.loop (stabVPrL1Step n) 4611686018427387904 (20, x1)).bind fun x2 =>
 .ret x2
@[reducible] def stabVPrCI : PIf (VhL [.s (.ownC 0), vi, .clo 93 []] × OShL cdv3q0) (VhL [.s (.ownC 0)] × OShL cdv3q0) where
  α := List Pr
  tr x := stabVPrTr x.1.2.1 x.2.1
  enc x a := ((x.1.1, ()), (a, ()))
@[reducible] def stabVPrI : PIf (VhL [.s (.own 0), vi, .clo 93 []] × OShL cdv3q0) (VhL [] × OShL cdv3q0) where
  α := List Pr
  tr x := stabVPrTr x.1.2.1 x.2.1
  enc x a := ((), (a, ()))
abbrev stabVPr_T : Type := VhL [.s (.own 0), vi, .clo 93 []] × OShL cdv3q0 → Option (VhL [] × OShL cdv3q0)
noncomputable abbrev stabVPr_C (sp : stabVPr_T) : Con := Con.fx [vi, .clo 93 []] cdv3q0 [] cdv3q0 sp
theorem stabVPr_g : Callable Tryz.prog 115 := ⟨Tryz.f115, body Tryz.f115, by kernel_rfl, by kernel_rfl, by kernel_rfl⟩
theorem stabVPr_raw (sp_cmpPr : cmpPr_T) (sp_insPr : insPr_T) (sp_symMPr : VhL [.s (.own 0), vi, vi, vi, .clo 93 []] × OShL cdv3q0 → Option (VhL [] × OShL cdv3q0)) (sp_stabVPrL0 : VhL stabVPrL0vs × OShL stabVPrL0os → Option stabVPrL0fin.Y) (sp_stabVPrL2 : VhL stabVPrL2vs × OShL stabVPrL2os → Option stabVPrL2fin.Y) (sp_stabVPrL1 : VhL stabVPrL1vs × OShL stabVPrL1os → Option stabVPrL1fin.Y) (c0 : Value) (n : Int) (d : List Pr) : runX Tryz.f115 [vi, .clo 93 []] cdv3q0 [] cdv3q0 [(93, cmpPr_C sp_cmpPr), (121, insPr_C sp_insPr), (122, Con.fx [vi, vi, vi, .clo 93 []] cdv3q0 [] cdv3q0 sp_symMPr)] [(2, LCon.of Tryz.f115.ntmps [0, 1, 2, 6, 7, 8] stabVPrL0vs stabVPrL0os stabVPrL0fin sp_stabVPrL0), (9, LCon.of Tryz.f115.ntmps [0, 1, 2, 6, 7, 8] stabVPrL2vs stabVPrL2os stabVPrL2fin sp_stabVPrL2), (7, LCon.of Tryz.f115.ntmps [0, 1, 2, 6] stabVPrL1vs stabVPrL1os stabVPrL1fin sp_stabVPrL1)] [] (((c0, n, (), ()), (d, ())) : VhL [.s (.ownC 0), vi, .clo 93 []] × OShL cdv3q0) = ((sp_stabVPrL0 ((c0, n, (), 20, 0, 20, ()), d, ())).bind fun val => (sp_insPr (((), val.1.2.2.2.2.1, val.1.2.1, (), ()), val.2.1, ())).bind fun val_1 => (sp_stabVPrL1 ((val.1.1, val.1.2.1, (), val.1.2.2.2.1, ()), val_1.2.1, ())).bind fun val => some ((val.1.1, ()), val.2.1, ())) := by kernel_rfl
theorem stabVPr_ok : Sound Tryz.prog gl 115 (stabVPr_C (PIf.spec stabVPrI)) := by
  refine cxk (I := stabVPrCI) (J := stabVPrI) (fn := Tryz.f115) (G := [(93, cmpPr_C (PIf.spec cmpPrI)), (121, insPr_C (PIf.spec insPrI)), (122, Con.fx [vi, vi, vi, .clo 93 []] cdv3q0 [] cdv3q0 (PIf.spec symMPrI))]) (GOk.cons cmpPr_g cmpPr_ok (GOk.cons insPr_g insPr_ok (GOk.cons ⟨Tryz.f122, body Tryz.f122, by kernel_rfl, by kernel_rfl, by kernel_rfl⟩ symMPr_ok (GOk.nil)))) (by kernel_rfl) (by kernel_rfl) (Lc := [(2, LCon.of Tryz.f115.ntmps [0, 1, 2, 6, 7, 8] stabVPrL0vs stabVPrL0os stabVPrL0fin (PIf.spec stabVPrL0I)), (9, LCon.of Tryz.f115.ntmps [0, 1, 2, 6, 7, 8] stabVPrL2vs stabVPrL2os stabVPrL2fin (PIf.spec stabVPrL2I)), (7, LCon.of Tryz.f115.ntmps [0, 1, 2, 6] stabVPrL1vs stabVPrL1os stabVPrL1fin (PIf.spec stabVPrL1I))]) (nh := []) (lcok (bs := [getL (body Tryz.f115) 0, getL (body Tryz.f115) 1, getL (body Tryz.f115) 2]) (by kernel_rfl) ⟨lone_ok (q := (2, LCon.of Tryz.f115.ntmps [0, 1, 2, 6, 7, 8] stabVPrL0vs stabVPrL0os stabVPrL0fin (PIf.spec stabVPrL0I))) (by kernel_rfl) stabVPrL0_ok, lone_ok (q := (7, LCon.of Tryz.f115.ntmps [0, 1, 2, 6] stabVPrL1vs stabVPrL1os stabVPrL1fin (PIf.spec stabVPrL1I))) (by kernel_rfl) stabVPrL1_ok, lone_ok (q := (9, LCon.of Tryz.f115.ntmps [0, 1, 2, 6, 7, 8] stabVPrL2vs stabVPrL2os stabVPrL2fin (PIf.spec stabVPrL2I))) (by kernel_rfl) stabVPrL2_ok, trivial⟩) ?_ (fun c0 x o y h => by obtain ⟨a, h1, rfl⟩ := Option.map_eq_some_iff.1 h; exact Option.map_eq_some_iff.2 ⟨a, h1, rfl⟩)
  rintro ⟨⟨c0, n, _, _⟩, ⟨d, _⟩⟩
  refine (stabVPr_raw (PIf.spec cmpPrI) (PIf.spec insPrI) (PIf.spec symMPrI) (PIf.spec stabVPrL0I) (PIf.spec stabVPrL2I) (PIf.spec stabVPrL1I) c0 n d).trans ?_
  show _ = ((stabVPrTr n d).val).map (stabVPrCI.enc ((c0, n, (), ()), (d, ())))
  unfold stabVPrTr
  repeat' (first | (refine bindP (fun _ => ?_); try dsimp only [selim, cond_true, cond_false, Bool.not_true, Bool.not_false, one, mI, cmpPrI, insPrI, symMPrI, stabVPrL0I, stabVPrL2I, stabVPrL1I]) | rfl)
def stabWPrTr (d : List Pr) : T (List Pr) :=
 (stabVPrTr (Int.ofNat d.length) d).bind fun x0 =>
 .ret x0
@[reducible] def stabWPrCI : PIf (VhL [.s (.ownC 0), .clo 93 []] × OShL cdv3q0) (VhL [.s (.ownC 0)] × OShL cdv3q0) where
  α := List Pr
  tr x := stabWPrTr x.2.1
  enc x a := ((x.1.1, ()), (a, ()))
@[reducible] def stabWPrI : PIf (VhL [.s (.own 0), .clo 93 []] × OShL cdv3q0) (VhL [] × OShL cdv3q0) where
  α := List Pr
  tr x := stabWPrTr x.2.1
  enc x a := ((), (a, ()))
abbrev stabWPr_T : Type := VhL [.s (.own 0), .clo 93 []] × OShL cdv3q0 → Option (VhL [] × OShL cdv3q0)
noncomputable abbrev stabWPr_C (sp : stabWPr_T) : Con := Con.fx [.clo 93 []] cdv3q0 [] cdv3q0 sp
theorem stabWPr_raw (sp_cmpPr : cmpPr_T) (sp_stabVPr : stabVPr_T) (c0 : Value) (d : List Pr) : runX Tryz.f92 [.clo 93 []] cdv3q0 [] cdv3q0 [(93, cmpPr_C sp_cmpPr), (115, stabVPr_C sp_stabVPr)] [] [] (((c0, (), ()), (d, ())) : VhL [.s (.ownC 0), .clo 93 []] × OShL cdv3q0) = ((sp_stabVPr (((), Int.ofNat d.length, (), ()), d, ())).bind fun val => some ((c0, ()), val.2.1, ())) := by kernel_rfl
theorem stabWPr_ok : Sound Tryz.prog gl 92 (stabWPr_C (PIf.spec stabWPrI)) := by
  refine cxk (I := stabWPrCI) (J := stabWPrI) (fn := Tryz.f92) (G := [(93, cmpPr_C (PIf.spec cmpPrI)), (115, stabVPr_C (PIf.spec stabVPrI))]) (GOk.cons cmpPr_g cmpPr_ok (GOk.cons stabVPr_g stabVPr_ok (GOk.nil))) (by kernel_rfl) (by kernel_rfl) (Lc := []) (nh := []) (noloopN (by kernel_rfl)) ?_ (fun c0 x o y h => by obtain ⟨a, h1, rfl⟩ := Option.map_eq_some_iff.1 h; exact Option.map_eq_some_iff.2 ⟨a, h1, rfl⟩)
  rintro ⟨⟨c0, _, _⟩, ⟨d, _⟩⟩
  refine (stabWPr_raw (PIf.spec cmpPrI) (PIf.spec stabVPrI) c0 d).trans ?_
  show _ = ((stabWPrTr d).val).map (stabWPrCI.enc ((c0, (), ()), (d, ())))
  unfold stabWPrTr
  repeat' (first | (refine bindP (fun _ => ?_); try dsimp only [selim, cond_true, cond_false, Bool.not_true, Bool.not_false, one, mI, cmpPrI, stabVPrI]) | rfl)
end Go.Ax.Cd
/- Stable sorting of lists by a key: what it is to be the same up to the order of unlike keys; a sorted list of that kind is one alone. -/
namespace Go.Ax.Cd
set_option linter.unusedVariables false
section
variable {α : Type} (key : α → Int)
/-- Those of each key stand in the same order. -/
def SE (l l' : List α) : Prop := ∀ k, l.filter (fun x => key x == k) = l'.filter (fun x => key x == k)
def Srt (l : List α) : Prop := l.Pairwise (fun x y => key x ≤ key y)
def ins (x : α) : List α → List α
  | [] => [x]
  | y :: t => if key x ≤ key y then x :: y :: t else y :: ins x t
def isort (l : List α) : List α := l.foldr (ins key) []
variable {key}
theorem SE.refl (l : List α) : SE key l l := fun _ => rfl
theorem SE.symm {l l' : List α} (h : SE key l l') : SE key l' l := fun k => (h k).symm
theorem SE.trans {l l' l'' : List α} (h : SE key l l') (h' : SE key l' l'') : SE key l l'' := fun k => (h k).trans (h' k)
theorem SE.append {a a' b b' : List α} (h : SE key a a') (h' : SE key b b') : SE key (a ++ b) (a' ++ b') := fun k => by
  rw [List.filter_append, List.filter_append, h k, h' k]
theorem SE.swap {X Y : List α} (h : ∀ x ∈ X, ∀ y ∈ Y, key x ≠ key y) : SE key (X ++ Y) (Y ++ X) := fun k => by
  rw [List.filter_append, List.filter_append]
  cases hx : X.filter (fun x => key x == k) with
  | nil => simp
  | cons x t =>
    have hx1 : x ∈ X.filter (fun x => key x == k) := by rw [hx]; exact List.mem_cons_self
    obtain ⟨hx2, hx3⟩ := List.mem_filter.1 hx1
    have : Y.filter (fun x => key x == k) = [] := by
      rw [List.filter_eq_nil_iff]
      intro y hy hyk
      have e1 : key x = k := by simpa using hx3
      have e2 : key y = k := by simpa using hyk
      exact h x hx2 y hy (e1.trans e2.symm)
    rw [this]
    simp
theorem SE.mem {l l' : List α} (h : SE key l l') {x : α} (hx : x ∈ l) : x ∈ l' := by
  have : x ∈ l.filter (fun y => key y == key x) := List.mem_filter.2 ⟨hx, by simp⟩
  rw [h] at this
  exact (List.mem_filter.1 this).1
theorem SE.uniq : ∀ {l l' : List α}, Srt key l → Srt key l' → SE key l l' → l = l'
  | [], l', _, _, h => by
    cases l' with
    | nil => rfl
    | cons y t => have := h.symm.mem (x := y) List.mem_cons_self; simp at this
  | x :: t, [], _, _, h => by have := h.mem (x := x) List.mem_cons_self; simp at this
  | x :: t, y :: t', h1, h2, h => by
    obtain ⟨a1, a2⟩ := List.pairwise_cons.1 h1
    obtain ⟨b1, b2⟩ := List.pairwise_cons.1 h2
    have e : key x = key y := by
      have hx := h.mem (x := x) List.mem_cons_self
      have hy := h.symm.mem (x := y) List.mem_cons_self
      have l1 : key y ≤ key x := by
        rcases List.mem_cons.1 hx with rfl | hx
        · exact Int.le_refl _
        · exact b1 x hx
      have l2 : key x ≤ key y := by
        rcases List.mem_cons.1 hy with rfl | hy
        · exact Int.le_refl _
        · exact a1 y hy
      omega
    have hh := h (key x)
    rw [List.filter_cons_of_pos (by simp), List.filter_cons_of_pos (by simp [e])] at hh
    obtain ⟨rfl, hh2⟩ := List.cons.inj hh
    congr 1
    refine SE.uniq a2 b2 (fun k => ?_)
    have := h k
    by_cases c : (key x == k) = true
    · rw [List.filter_cons_of_pos (by simpa using c), List.filter_cons_of_pos (by simpa using c)] at this
      exact (List.cons.inj this).2
    · rw [List.filter_cons_of_neg (by simpa using c), List.filter_cons_of_neg (by simpa using c)] at this
      exact this
theorem ins_mem {x : α} : ∀ {l : List α} {y : α}, y ∈ ins key x l → y = x ∨ y ∈ l
  | [], y, h => by simp [ins] at h; exact .inl h
  | z :: t, y, h => by
    simp only [ins] at h
    split at h
    · rcases List.mem_cons.1 h with h | h
      · exact .inl h
      · exact .inr h
    · rcases List.mem_cons.1 h with rfl | h
      · exact .inr List.mem_cons_self
      · exact (ins_mem h).imp id (List.mem_cons_of_mem _)
theorem ins_srt {x : α} : ∀ {l : List α}, Srt key l → Srt key (ins key x l)
  | [], _ => by simp [ins, Srt]
  | z :: t, h => by
    obtain ⟨h1, h2⟩ := List.pairwise_cons.1 h
    simp only [ins]
    split
    · rename_i c
      refine List.pairwise_cons.2 ⟨fun y hy => ?_, h⟩
      rcases List.mem_cons.1 hy with rfl | hy
      · exact c
      · have := h1 y hy; omega
    · rename_i c
      refine List.pairwise_cons.2 ⟨fun y hy => ?_, ins_srt h2⟩
      rcases ins_mem hy with rfl | hy
      · omega
      · exact h1 y hy
theorem ins_SE {x : α} : ∀ {l : List α}, SE key (ins key x l) (x :: l)
  | [] => SE.refl _
  | z :: t => by
    simp only [ins]
    split
    · exact SE.refl _
    · rename_i c
      refine (SE.append (a := [z]) (SE.refl _) (ins_SE (l := t))).trans ?_
      exact SE.append (b := t) (SE.swap (X := [z]) (Y := [x]) (by simp; omega)) (SE.refl _)
theorem ins_len {x : α} : ∀ {l : List α}, (ins key x l).length = l.length + 1
  | [] => rfl
  | z :: t => by
    simp only [ins]
    split
    · rfl
    · simp [ins_len (l := t)]
theorem isort_srt : ∀ (l : List α), Srt key (isort key l)
  | [] => by simp [isort, Srt]
  | x :: t => ins_srt (isort_srt t)
theorem isort_SE : ∀ (l : List α), SE key (isort key l) l
  | [] => SE.refl _
  | x :: t => ins_SE.trans (SE.append (a := [x]) (SE.refl _) (isort_SE t))
theorem isort_len : ∀ (l : List α), (isort key l).length = l.length
  | [] => rfl
  | x :: t => by
    have := isort_len t
    simp only [isort, List.foldr_cons, ins_len, List.length_cons] at this ⊢
    omega
theorem isort_eq {l l' : List α} (h : Srt key l') (h2 : SE key l' l) : l' = isort key l := SE.uniq h (isort_srt l) (h2.trans (isort_SE l).symm)
theorem isort_of_srt {l : List α} (h : Srt key l) : isort key l = l := (isort_eq h (SE.refl l)).symm
theorem isort_mem {l : List α} {x : α} : x ∈ isort key l ↔ x ∈ l := ⟨(isort_SE l).mem, (isort_SE l).symm.mem⟩
theorem isort_of_SE {l l' : List α} (h : SE key l l') : isort key l = isort key l' := isort_eq (isort_srt l) ((isort_SE l).trans h)
theorem Srt.app {l l' : List α} (h : Srt key l) (h' : Srt key l') (hx : ∀ x ∈ l, ∀ y ∈ l', key x ≤ key y) : Srt key (l ++ l') := List.pairwise_append.2 ⟨h, h', hx⟩
theorem Srt.idx {l : List α} (h : Srt key l) {i j : Nat} (hj : j < l.length) (hij : i ≤ j) : key (l[i]'(by omega)) ≤ key l[j] := by
  rcases Nat.lt_or_ge i j with c | c
  · exact List.pairwise_iff_getElem.1 h i j (by omega) hj c
  · have : i = j := by omega
    subst this
    exact Int.le_refl _
theorem Srt.sub {l l' : List α} (h : Srt key l) (hs : l'.Sublist l) : Srt key l' := List.Pairwise.sublist hs h
end
/-! ### Elements of rows -/
theorem rd_at {e : EK} {l A R : List e.T} {x : e.T} {i : Int} (h : l = A ++ x :: R) (hi : i = (A.length : Int)) : rd (e := e) l i = x := by
  subst h
  subst hi
  simp [rd, List.getD_eq_getElem?_getD]
theorem wr_at {e : EK} {l A R : List e.T} {x y : e.T} {i : Int} (h : l = A ++ x :: R) (hi : i = (A.length : Int)) : wr (e := e) l i y = A ++ y :: R := by
  subst h
  subst hi
  simp [wr]
theorem inR_at {e : EK} {l A R : List e.T} {x : e.T} {i : Int} (h : l = A ++ x :: R) (hi : i = (A.length : Int)) : inR i l.length = true := by
  subst h
  subst hi
  simp [inR]
  omega
theorem rd_ge {e : EK} {l : List e.T} {i : Nat} (h : i < l.length) : rd (e := e) l (i : Int) = l[i] := by
  simp [rd, List.getD_eq_getElem?_getD, List.getElem?_eq_getElem h]
theorem inR_ge {n i : Nat} (h : i < n) : inR (i : Int) n = true := by simp [inR]; omega
/-! ### Loops that end with a value -/
theorem loop_val {σ β : Type} (body : σ → T (σ ⊕ β)) (k : Nat) (s : σ) : (T.loop body (k + 1) s).val = (body s).val.bind fun | .inl s' => (T.loop body k s').val | .inr b => some b := by
  show ((body s).bind _).val = _
  rw [T.val_bind]
  cases (body s).val with
  | none => rfl
  | some r => cases r <;> rfl
theorem loop_step {σ β : Type} {body : σ → T (σ ⊕ β)} {k : Nat} {s s' : σ} {r : Option β} (h : (body s).val = some (.inl s')) (h' : (T.loop body k s').val = r) : (T.loop body (k + 1) s).val = r := by rw [loop_val, h]; exact h'
theorem loop_end {σ β : Type} {body : σ → T (σ ⊕ β)} {k : Nat} {s : σ} {b : β} (h : (body s).val = some (.inr b)) : (T.loop body (k + 1) s).val = some b := by rw [loop_val, h]; rfl
/-- The middle. -/
theorem half {s : Int} (h0 : 0 ≤ s) (h1 : s < 4611686018427387904) : w64 (sh64 (w64u (w64 s)) 1) = s / 2 := by
  have e1 : w64 s = s := w64_id h0 (by omega)
  have e2 : w64u s = s := by
    have h2 : (2 : Int) ^ IntKind.u64.bits = 18446744073709551616 := by decide
    have h3 : s % 18446744073709551616 = s := Int.emod_eq_of_lt h0 (by omega)
    simp [w64u, IntKind.wrap, h2, h3, IntKind.signed]
  have e3 : sh64 s 1 = s / 2 := by
    unfold sh64
    have : (2 : Int) ^ (min (1 : Int).toNat 64) = 2 := by decide
    rw [this, Int.fdiv_eq_ediv_of_nonneg _ (by decide)]
  rw [e1, e2, e3, w64_id (by omega) (by omega)]
/-- Searched by halves: where p ends. -/
theorem bs_val {body : Int × Int → T ((Int × Int) ⊕ Int)} {p : Nat → Bool} {lo hi : Nat} (hb : ∀ i j : Nat, lo ≤ i → i ≤ j → j ≤ hi → (body ((i : Int), (j : Int))).val = some (if i < j then (if p ((i + j) / 2) then .inl ((((i + j) / 2 + 1 : Nat) : Int), (j : Int)) else .inl ((i : Int), (((i + j) / 2 : Nat) : Int))) else .inr (i : Int)))
    (hp : ∀ s t, lo ≤ s → s ≤ t → t < hi → p t = true → p s = true) : ∀ (k i j : Nat), j - i < k → lo ≤ i → i ≤ j → j ≤ hi → (∀ t, lo ≤ t → t < i → p t = true) → (∀ t, j ≤ t → t < hi → p t = false) →
    ∃ r : Nat, (T.loop body k ((i : Int), (j : Int))).val = some (r : Int) ∧ lo ≤ r ∧ r ≤ hi ∧ (∀ t, lo ≤ t → t < r → p t = true) ∧ (∀ t, r ≤ t → t < hi → p t = false)
  | 0, i, j, h, _, _, _, _, _ => by omega
  | k + 1, i, j, h, h1, h2, h3, h4, h5 => by
    have hv := hb i j h1 h2 h3
    by_cases c : i < j
    · rw [if_pos c] at hv
      cases hc : p ((i + j) / 2) with
      | true =>
        rw [hc] at hv
        obtain ⟨r, k1, k2⟩ := bs_val hb hp k ((i + j) / 2 + 1) j (by omega) (by omega) (by omega) h3 (fun t t1 t2 => hp t ((i + j) / 2) t1 (by omega) (by omega) hc) h5
        exact ⟨r, loop_step hv k1, k2⟩
      | false =>
        rw [hc] at hv
        obtain ⟨r, k1, k2⟩ := bs_val hb hp k i ((i + j) / 2) (by omega) h1 (by omega) (by omega) h4 (fun t t1 t2 => by
          cases ht : p t with
          | false => rfl
          | true => rw [hp ((i + j) / 2) t (by omega) t1 t2 ht] at hc; cases hc)
        exact ⟨r, loop_step hv k1, k2⟩
    · rw [if_neg c] at hv
      have : i = j := by omega
      subst this
      exact ⟨i, loop_end hv, h1, h3, h4, h5⟩
end Go.Ax.Cd
/- The stable sort of pairs, as the library has it, is the stable sort. -/
namespace Go.Ax.Cd
set_option linter.unusedVariables false
set_option maxRecDepth 100000
namespace SPr
abbrev E : EK := .st .pr
abbrev ky (x : Pr) : Int := x.k
theorem cmp_val (x y : Pr) : ∃ c, (cmpPrTr x y).val = some c ∧ decide (c < 0) = decide (ky x < ky y) := by
  unfold cmpPrTr cmpITr
  by_cases h1 : x.k < y.k
  · exact ⟨-1, by simp [T.val_bind, T.val_ret, h1], by simp [ky, h1]⟩
  · by_cases h2 : y.k < x.k
    · exact ⟨1, by simp [T.val_bind, T.val_ret, h1, h2], by simp [ky, h1]⟩
    · exact ⟨0, by simp [T.val_bind, T.val_ret, h1, h2], by simp [ky, h1]⟩
/-! ### Two blocks swapped -/
theorem swap_loop {a b n : Int} : ∀ (X Y A B C : List Pr) (i : Int) (k : Nat), X.length = Y.length → 0 ≤ i → i + X.length = n → a + i = A.length → b + i = A.length + X.length + B.length → 0 ≤ a → 0 ≤ b → (A ++ X ++ B ++ Y ++ C).length ≤ 1000000 → X.length < k →
    (T.loop (swapPrL0Step a b n) k (i, A ++ X ++ B ++ Y ++ C)).val = some (A ++ Y ++ B ++ X ++ C)
  | [], Y, A, B, C, i, k, hl, hi, hn, ha, hb, ha0, hb0, hs, hk => by
    obtain ⟨k, rfl⟩ : ∃ k', k = k' + 1 := ⟨k - 1, by simp at hk; omega⟩
    have : Y = [] := by simpa using hl.symm
    subst this
    refine loop_end ?_
    have : ¬ i < n := by simp at hn; omega
    simp [swapPrL0Step, this, T.val_ret]
  | x :: X, [], A, B, C, i, k, hl, _, _, _, _, _, _, _, _ => by simp at hl
  | x :: X, y :: Y, A, B, C, i, k, hl, hi, hn, ha, hb, ha0, hb0, hs, hk => by
    obtain ⟨k, rfl⟩ : ∃ k', k = k' + 1 := ⟨k - 1, by simp at hk; omega⟩
    simp only [List.length_append, List.length_cons] at hs hl hn hb hk
    have e1 : w64 (a + i) = (A.length : Int) := by rw [w64_id] <;> omega
    have e2 : w64 (b + i) = ((A ++ x :: X ++ B).length : Int) := by rw [w64_id] <;> (try simp) <;> omega
    have e2' : w64 (b + i) = ((A ++ y :: X ++ B).length : Int) := by rw [e2]; simp
    have e3 : w64 (i + 1) = i + 1 := by rw [w64_id] <;> omega
    have d1 : A ++ x :: X ++ B ++ y :: Y ++ C = A ++ x :: (X ++ B ++ y :: Y ++ C) := by simp
    have d2 : A ++ x :: X ++ B ++ y :: Y ++ C = (A ++ x :: X ++ B) ++ y :: (Y ++ C) := by simp
    have r1 : rd (e := E) (A ++ x :: X ++ B ++ y :: Y ++ C) (w64 (a + i)) = x := rd_at d1 e1
    have r2 : rd (e := E) (A ++ x :: X ++ B ++ y :: Y ++ C) (w64 (b + i)) = y := rd_at d2 e2
    have w1 : wr (e := E) (A ++ x :: X ++ B ++ y :: Y ++ C) (w64 (a + i)) y = A ++ y :: (X ++ B ++ y :: Y ++ C) := wr_at d1 e1
    have d3 : A ++ y :: (X ++ B ++ y :: Y ++ C) = (A ++ y :: X ++ B) ++ y :: (Y ++ C) := by simp
    have w2 : wr (e := E) (A ++ y :: (X ++ B ++ y :: Y ++ C)) (w64 (b + i)) x = (A ++ y :: X ++ B) ++ x :: (Y ++ C) := wr_at d3 e2'
    have i1 := inR_at (e := E) d1 e1
    have i2 := inR_at (e := E) d2 e2
    have i3 := inR_at (e := E) d3 e2'
    have ih := swap_loop (a := a) (b := b) (n := n) X Y (A ++ [y]) (B ++ [x]) C (i + 1) k (by omega) (by omega) (by omega) (by simp; omega) (by simp; omega) ha0 hb0 (by simp; omega) (by omega)
    refine loop_step (s' := (i + 1, A ++ [y] ++ X ++ (B ++ [x]) ++ Y ++ C)) ?_ (ih.trans (by simp))
    have c : i < n := by omega
    simp only [swapPrL0Step, rdE, wrE, c, decide_true, cond_true, i1, i2, r1, r2, w1, w2, i3, e3, T.val_ret]
    simp
theorem swap_val {a b n : Int} (X Y A B C : List Pr) (hl : X.length = Y.length) (hn : n = X.length) (ha : a = A.length) (hb : b = A.length + X.length + B.length) (hs : (A ++ X ++ B ++ Y ++ C).length ≤ 1000000) :
    (swapPrTr a b n (A ++ X ++ B ++ Y ++ C)).val = some (A ++ Y ++ B ++ X ++ C) := by
  unfold swapPrTr
  have hs' := hs
  simp only [List.length_append] at hs'
  rw [T.val_bind, swap_loop X Y A B C 0 _ hl (Int.le_refl _) (by omega) (by omega) (by omega) (by omega) (by omega) hs (by omega)]
  rfl
/-! ### Two blocks, one behind the other, in the other order -/
theorem rot_loop {m : Int} : ∀ (s : Nat) (P X Y Q : List Pr) (k : Nat), X.length + Y.length ≤ s → 0 < X.length → 0 < Y.length → m = P.length + X.length → (P ++ X ++ Y ++ Q).length ≤ 1000000 → s < k →
    ∃ P' X' Y' Q' : List Pr, (T.loop (rotPrL0Step m) k ((X.length : Int), (Y.length : Int), P ++ X ++ Y ++ Q)).val = some ((X'.length : Int), P' ++ X' ++ Y' ++ Q') ∧ X'.length = Y'.length ∧ m = P'.length + X'.length ∧ (P' ++ X' ++ Y' ++ Q').length ≤ 1000000 ∧ P' ++ Y' ++ X' ++ Q' = P ++ Y ++ X ++ Q
  | 0, P, X, Y, Q, k, h, hx, _, _, _, _ => by omega
  | s + 1, P, X, Y, Q, k, h, hx, hy, hm, hs, hk => by
    obtain ⟨k, rfl⟩ : ∃ k', k = k' + 1 := ⟨k - 1, by omega⟩
    have hs' := hs
    simp only [List.length_append] at hs'
    by_cases c : X.length = Y.length
    · refine ⟨P, X, Y, Q, loop_end ?_, c, hm, hs, rfl⟩
      simp [rotPrL0Step, c, T.val_ret]
    · have c1 : ((X.length : Int) != (Y.length : Int)) = true := by simp; omega
      by_cases c2 : X.length > Y.length
      · -- the first part of X for Y
        obtain ⟨X1, X2, rfl, hX1⟩ : ∃ X1 X2, X = X1 ++ X2 ∧ X1.length = Y.length := ⟨X.take Y.length, X.drop Y.length, by simp, by simp; omega⟩
        simp only [List.length_append] at h hm c c2 hs' hx
        have e1 : w64 (m - ((X1 ++ X2).length : Int)) = (P.length : Int) := by rw [w64_id] <;> (try simp) <;> omega
        have e2 : w64 (((X1 ++ X2).length : Int) - (Y.length : Int)) = (X2.length : Int) := by rw [w64_id] <;> (try simp) <;> omega
        have hv := swap_val (a := P.length) (b := m) (n := Y.length) X1 Y P X2 Q hX1 (by omega) rfl (by omega) (by simp; omega)
        obtain ⟨P', X', Y', Q', k1, k2, k3, k4, k5⟩ := rot_loop (m := m) s (P ++ Y) X2 X1 Q k (by omega) (by omega) (by omega) (by simp; omega) (by simp; omega) (by omega)
        refine ⟨P', X', Y', Q', loop_step (s' := ((X2.length : Int), (Y.length : Int), P ++ Y ++ X2 ++ X1 ++ Q)) ?_ (by rw [← hX1]; exact k1), k2, k3, k4, by rw [k5]; simp⟩
        have c3 : ((X1 ++ X2).length : Int) > (Y.length : Int) := by simp; omega
        have d : P ++ (X1 ++ X2) ++ Y ++ Q = P ++ X1 ++ X2 ++ Y ++ Q := by simp
        simp only [rotPrL0Step, c1, c3, decide_true, cond_true, e1, e2, T.val_bind, d, hv, Option.bind_some, T.val_ret]
      · obtain ⟨Y1, Y2, rfl, hY2⟩ : ∃ Y1 Y2, Y = Y1 ++ Y2 ∧ Y2.length = X.length := ⟨Y.take (Y.length - X.length), Y.drop (Y.length - X.length), by simp, by simp; omega⟩
        simp only [List.length_append] at h hm c c2 hs' hy
        have e1 : w64 (m - (X.length : Int)) = (P.length : Int) := by rw [w64_id] <;> omega
        have e2 : w64 (((Y1 ++ Y2).length : Int) - (X.length : Int)) = (Y1.length : Int) := by rw [w64_id] <;> (try simp) <;> omega
        have e4 : w64 (m + ((Y1 ++ Y2).length : Int)) = m + ((Y1 ++ Y2).length : Int) := by rw [w64_id] <;> (try simp) <;> omega
        have e3 : w64 (w64 (m + ((Y1 ++ Y2).length : Int)) - (X.length : Int)) = (P.length : Int) + X.length + Y1.length := by rw [e4, w64_id] <;> (try simp) <;> omega
        have hv := swap_val (a := P.length) (b := (P.length : Int) + X.length + Y1.length) (n := X.length) X Y2 P Y1 Q hY2.symm rfl rfl rfl (by simp; omega)
        obtain ⟨P', X', Y', Q', k1, k2, k3, k4, k5⟩ := rot_loop (m := m) s P Y2 Y1 (X ++ Q) k (by omega) (by omega) (by omega) (by omega) (by simp; omega) (by omega)
        refine ⟨P', X', Y', Q', loop_step (s' := ((X.length : Int), (Y1.length : Int), P ++ Y2 ++ Y1 ++ (X ++ Q))) ?_ (by rw [← hY2]; exact k1), k2, k3, k4, by rw [k5]; simp⟩
        have c3 : ¬ ((X.length : Int) > ((Y1 ++ Y2).length : Int)) := by simp; omega
        have d : P ++ X ++ (Y1 ++ Y2) ++ Q = P ++ X ++ Y1 ++ Y2 ++ Q := by simp
        simp only [rotPrL0Step, c1, c3, decide_false, cond_true, cond_false, e1, e2, e3, T.val_bind, d, hv, Option.bind_some, T.val_ret]
        simp
theorem rot_val {a m b : Int} (P X Y Q : List Pr) (hx : 0 < X.length) (hy : 0 < Y.length) (ha : a = P.length) (hm : m = P.length + X.length) (hb : b = P.length + X.length + Y.length) (hs : (P ++ X ++ Y ++ Q).length ≤ 1000000) :
    (rotPrTr a m b (P ++ X ++ Y ++ Q)).val = some (P ++ Y ++ X ++ Q) := by
  unfold rotPrTr
  have hs' := hs
  simp only [List.length_append] at hs'
  have e1 : w64 (m - a) = (X.length : Int) := by rw [w64_id] <;> omega
  have e2 : w64 (b - m) = (Y.length : Int) := by rw [w64_id] <;> omega
  obtain ⟨P', X', Y', Q', k1, k2, k3, k4, k5⟩ := rot_loop (m := m) (X.length + Y.length) P X Y Q 4611686018427387904 (Nat.le_refl _) hx hy hm hs (by omega)
  have k4' := k4
  simp only [List.length_append] at k4'
  have e3 : w64 (m - (X'.length : Int)) = (P'.length : Int) := by rw [w64_id] <;> omega
  have hv := swap_val (a := P'.length) (b := m) (n := X'.length) X' Y' P' [] Q' k2 rfl rfl (by simp; omega) (by simpa using k4)
  rw [e1, e2, T.val_bind, k1, Option.bind_some]
  simp only [e3, T.val_bind]
  rw [show P' ++ X' ++ Y' ++ Q' = P' ++ X' ++ [] ++ Y' ++ Q' by simp, hv]
  simp only [Option.bind_some, T.val_ret]
  rw [← k5]
  simp
end SPr
end Go.Ax.Cd
/- Insertion sort, and the merge, of pairs. -/
namespace Go.Ax.Cd
set_option linter.unusedVariables false
set_option maxRecDepth 100000
namespace SPr
theorem ins_loop {a b i : Int} : ∀ (n : Nat) (S P : List Pr) (x : Pr) (R : List Pr) (k : Nat), S.length = n → a = P.length → (P ++ S ++ x :: R).length ≤ 1000000 → n < k →
    ∃ S1 S2, S = S1 ++ S2 ∧ (∀ s ∈ S2, ky x < ky s) ∧ (∀ s, S1.getLast? = some s → ky s ≤ ky x) ∧ (T.loop (insPrL1Step a b i) k (((P.length + S.length : Nat) : Int), P ++ S ++ x :: R)).val = some (P ++ S1 ++ x :: S2 ++ R)
  | 0, S, P, x, R, k, hn, ha, hs, hk => by
    obtain ⟨k, rfl⟩ : ∃ k', k = k' + 1 := ⟨k - 1, by omega⟩
    have : S = [] := by simpa using hn
    subst this
    refine ⟨[], [], rfl, by simp, by simp, loop_end ?_⟩
    have c : ¬ ((P.length : Int) > a) := by omega
    simp [insPrL1Step, c, T.val_ret]
  | n + 1, S, P, x, R, k, hn, ha, hs, hk => by
    obtain ⟨k, rfl⟩ : ∃ k', k = k' + 1 := ⟨k - 1, by omega⟩
    obtain ⟨S, y, rfl⟩ : ∃ S' y, S = S' ++ [y] := ⟨S.dropLast, S.getLast (by intro h; simp [h] at hn), (List.dropLast_concat_getLast _).symm⟩
    simp only [List.length_append, List.length_cons, List.length_nil] at hn hs
    have e1 : w64 ((P.length + (S ++ [y]).length : Nat) - 1 : Int) = ((P ++ S).length : Int) := by rw [w64_id] <;> (try simp) <;> omega
    have c : ((P.length + (S ++ [y]).length : Nat) : Int) > a := by simp; omega
    have d1 : P ++ (S ++ [y]) ++ x :: R = (P ++ (S ++ [y])) ++ x :: R := rfl
    have d2 : P ++ (S ++ [y]) ++ x :: R = (P ++ S) ++ y :: (x :: R) := by simp
    have l1 : ((P.length + (S ++ [y]).length : Nat) : Int) = ((P ++ (S ++ [y])).length : Int) := by simp
    have r1 : rd (e := E) (P ++ (S ++ [y]) ++ x :: R) ((P.length + (S ++ [y]).length : Nat) : Int) = x := rd_at d1 l1
    have r2 : rd (e := E) (P ++ (S ++ [y]) ++ x :: R) (w64 ((P.length + (S ++ [y]).length : Nat) - 1 : Int)) = y := rd_at d2 e1
    have i1 := inR_at (e := E) d1 l1
    have i2 := inR_at (e := E) d2 e1
    obtain ⟨cv, hc1, hc2⟩ := cmp_val x y
    by_cases hxy : ky x < ky y
    · have w1 : wr (e := E) (P ++ (S ++ [y]) ++ x :: R) ((P.length + (S ++ [y]).length : Nat) : Int) y = (P ++ (S ++ [y])) ++ y :: R := wr_at d1 l1
      have d3 : (P ++ (S ++ [y])) ++ y :: R = (P ++ S) ++ y :: (y :: R) := by simp
      have w2 : wr (e := E) ((P ++ (S ++ [y])) ++ y :: R) (w64 ((P.length + (S ++ [y]).length : Nat) - 1 : Int)) x = (P ++ S) ++ x :: (y :: R) := wr_at d3 e1
      have i3 := inR_at (e := E) d3 e1
      obtain ⟨S1, S2, k1, k2, k3, k4⟩ := ins_loop (a := a) (b := b) (i := i) n S P x (y :: R) k (by omega) ha (by simp; omega) (by omega)
      refine ⟨S1, S2 ++ [y], by rw [k1]; simp, fun s hs => ?_, k3, loop_step (s' := (((P.length + S.length : Nat) : Int), P ++ S ++ x :: (y :: R))) ?_ (k4.trans (by simp))⟩
      · rcases List.mem_append.1 hs with hs | hs
        · exact k2 s hs
        · simp only [List.mem_singleton] at hs
          subst hs
          exact hxy
      · have hc3 : decide (cv < 0) = true := by rw [hc2]; exact decide_eq_true hxy
        simp only [insPrL1Step, rdE, wrE, c, decide_true, cond_true, i1, i2, r1, r2, T.val_bind, hc1, Option.bind_some, hc3, w1, w2, i3, T.val_ret]
        rw [e1]
        simp
    · have hc3 : decide (cv < 0) = false := by rw [hc2]; exact decide_eq_false hxy
      refine ⟨S ++ [y], [], by simp, by simp, fun s hs => ?_, loop_end ?_⟩
      · simp at hs
        subst hs
        omega
      · simp only [insPrL1Step, rdE, wrE, c, decide_true, cond_true, i1, i2, r1, r2, T.val_bind, hc1, Option.bind_some, hc3, cond_false, T.val_ret]
        simp
theorem last_le {S1 : List Pr} {x : Pr} (h : Srt ky S1) (hl : ∀ s, S1.getLast? = some s → ky s ≤ ky x) : ∀ s ∈ S1, ky s ≤ ky x := fun s hs => by
  cases hg : S1.getLast? with
  | none => rw [List.getLast?_eq_none_iff] at hg; subst hg; simp at hs
  | some z =>
    obtain ⟨ys, rfl⟩ := List.getLast?_eq_some_iff.1 hg
    have hz := hl z hg
    rcases List.mem_append.1 hs with h1 | h1
    · have := (List.pairwise_append.1 h).2.2 s h1 z (by simp)
      omega
    · simp only [List.mem_singleton] at h1
      subst h1
      exact hz
theorem ins_outer {a b : Int} : ∀ (R S P Q : List Pr) (k : Nat), Srt ky S → a = P.length → b = P.length + S.length + R.length → (P ++ S ++ R ++ Q).length ≤ 1000000 → R.length < k →
    (T.loop (insPrL0Step a b) k (((P.length + S.length : Nat) : Int), P ++ S ++ R ++ Q)).val = some (P ++ isort ky (S ++ R) ++ Q)
  | [], S, P, Q, k, hS, ha, hb, hs, hk => by
    obtain ⟨k, rfl⟩ : ∃ k', k = k' + 1 := ⟨k - 1, by simp at hk; omega⟩
    refine loop_end ?_
    have c : ¬ (((P.length + S.length : Nat) : Int) < b) := by simp at hb; omega
    simp only [insPrL0Step, c, decide_false, cond_false, T.val_ret]
    simp [isort_of_srt hS]
  | x :: R, S, P, Q, k, hS, ha, hb, hs, hk => by
    obtain ⟨k, rfl⟩ : ∃ k', k = k' + 1 := ⟨k - 1, by simp at hk; omega⟩
    simp only [List.length_append, List.length_cons] at hs hb hk
    obtain ⟨S1, S2, rfl, k2, k3, k4⟩ := ins_loop (a := a) (b := b) (i := ((P.length + S.length : Nat) : Int)) S.length S P x (R ++ Q) 4611686018427387904 rfl ha (by simp; omega) (by omega)
    have hS' := List.pairwise_append.1 hS
    have hle := last_le (S1 := S1) hS'.1 k3
    have hN : Srt ky (S1 ++ x :: S2) := Srt.app hS'.1 (List.pairwise_cons.2 ⟨fun s hs => by have := k2 s hs; omega, hS'.2.1⟩) (fun u hu v hv => by
      rcases List.mem_cons.1 hv with rfl | hv
      · exact hle u hu
      · exact hS'.2.2 u hu v hv)
    have hSE : SE ky (S1 ++ x :: S2) ((S1 ++ S2) ++ [x]) := by
      rw [List.append_assoc]
      exact SE.append (SE.refl _) (SE.swap (X := [x]) (Y := S2) (fun u hu v hv => by simp only [List.mem_singleton] at hu; subst hu; have := k2 v hv; omega))
    have ih := ins_outer (a := a) (b := b) R (S1 ++ x :: S2) P Q k hN ha (by simp only [List.length_append, List.length_cons] at hb ⊢; omega) (by simp only [List.length_append, List.length_cons] at hs ⊢; omega) (by omega)
    have hI : isort ky ((S1 ++ x :: S2) ++ R) = isort ky ((S1 ++ S2) ++ x :: R) := by
      refine isort_of_SE ((SE.append hSE (SE.refl R)).trans ?_)
      simp only [List.append_assoc, List.cons_append, List.nil_append]
      exact SE.refl _
    rw [hI] at ih
    refine loop_step (s' := (((P.length + (S1 ++ x :: S2).length : Nat) : Int), P ++ (S1 ++ x :: S2) ++ R ++ Q)) ?_ ih
    have c : ((P.length + (S1 ++ S2).length : Nat) : Int) < b := by simp only [List.length_append] at hb ⊢; omega
    have d : P ++ (S1 ++ S2) ++ x :: R ++ Q = P ++ (S1 ++ S2) ++ x :: (R ++ Q) := by simp
    have e1 : w64 (((P.length + (S1 ++ S2).length : Nat) : Int) + 1) = ((P.length + (S1 ++ x :: S2).length : Nat) : Int) := by
      simp only [List.length_append, List.length_cons] at hs ⊢
      rw [w64_id] <;> omega
    simp only [insPrL0Step, c, decide_true, cond_true, T.val_bind, d, k4, Option.bind_some, T.val_ret, e1]
    simp
theorem ins_val {a b : Int} (P U Q : List Pr) (ha : a = P.length) (hb : b = P.length + U.length) (hs : (P ++ U ++ Q).length ≤ 1000000) : (insPrTr a b (P ++ U ++ Q)).val = some (P ++ isort ky U ++ Q) := by
  unfold insPrTr
  simp only [List.length_append] at hs
  have e1 : w64 (a + 1) = ((P.length + 1 : Nat) : Int) := by rw [w64_id] <;> omega
  cases U with
  | nil =>
    have c : ¬ (((P.length + 1 : Nat) : Int) < b) := by simp at hb; omega
    have := loop_end (body := insPrL0Step a b) (k := 4611686018427387903) (s := (((P.length + 1 : Nat) : Int), P ++ [] ++ Q)) (b := P ++ [] ++ Q) (by simp only [insPrL0Step, c, decide_false, cond_false, T.val_ret])
    rw [T.val_bind, e1, this]
    rfl
  | cons x U =>
    simp only [List.length_cons] at hs hb
    have := ins_outer (a := a) (b := b) U [x] P Q 4611686018427387904 (by simp [Srt]) ha (by simp; omega) (by simp; omega) (by omega)
    rw [T.val_bind, e1, show P ++ x :: U ++ Q = P ++ [x] ++ U ++ Q by simp]
    rw [show ((P.length + [x].length : Nat) : Int) = ((P.length + 1 : Nat) : Int) by simp] at this
    rw [this]
    simp [T.val_ret]
/-! ### An element moved -/
theorem fwd_loop {r : Int} : ∀ (W P : List Pr) (x : Pr) (R : List Pr) (k : Nat), r = P.length + 1 + W.length → (P ++ x :: W ++ R).length ≤ 1000000 → W.length < k →
    (T.loop (symPrL1Step r) k ((P.length : Int), P ++ x :: W ++ R)).val = some (P ++ W ++ x :: R)
  | [], P, x, R, k, hr, hs, hk => by
    obtain ⟨k, rfl⟩ : ∃ k', k = k' + 1 := ⟨k - 1, by simp at hk; omega⟩
    simp only [List.length_append, List.length_cons, List.length_nil] at hs hr
    refine loop_end ?_
    have c : ¬ ((P.length : Int) < w64 (r - 1)) := by rw [w64_id] <;> omega
    simp [symPrL1Step, c, T.val_ret]
  | y :: W, P, x, R, k, hr, hs, hk => by
    obtain ⟨k, rfl⟩ : ∃ k', k = k' + 1 := ⟨k - 1, by simp at hk; omega⟩
    simp only [List.length_append, List.length_cons] at hs hr hk
    have c : (P.length : Int) < w64 (r - 1) := by rw [w64_id] <;> omega
    have e1 : w64 ((P.length : Int) + 1) = ((P ++ [x]).length : Int) := by rw [w64_id] <;> (try simp) <;> omega
    have e2 : w64 ((P.length : Int) + 1) = ((P ++ [y]).length : Int) := by rw [e1]; simp
    have d1 : P ++ x :: (y :: W) ++ R = P ++ x :: (y :: W ++ R) := by simp
    have d2 : P ++ x :: (y :: W) ++ R = (P ++ [x]) ++ y :: (W ++ R) := by simp
    have r1 : rd (e := E) (P ++ x :: (y :: W) ++ R) (P.length : Int) = x := rd_at d1 rfl
    have r2 : rd (e := E) (P ++ x :: (y :: W) ++ R) (w64 ((P.length : Int) + 1)) = y := rd_at d2 e1
    have w1 : wr (e := E) (P ++ x :: (y :: W) ++ R) (P.length : Int) y = P ++ y :: (y :: W ++ R) := wr_at d1 rfl
    have d3 : P ++ y :: (y :: W ++ R) = (P ++ [y]) ++ y :: (W ++ R) := by simp
    have w2 : wr (e := E) (P ++ y :: (y :: W ++ R)) (w64 ((P.length : Int) + 1)) x = (P ++ [y]) ++ x :: (W ++ R) := wr_at d3 e2
    have i1 := inR_at (e := E) d1 rfl
    have i2 := inR_at (e := E) d2 e1
    have i3 := inR_at (e := E) d3 e2
    have ih := fwd_loop (r := r) W (P ++ [y]) x R k (by simp; omega) (by simp; omega) (by omega)
    refine loop_step (s' := (((P ++ [y]).length : Int), P ++ [y] ++ x :: W ++ R)) ?_ (ih.trans (by simp))
    simp only [symPrL1Step, rdE, wrE, c, decide_true, cond_true, i1, i2, r1, r2, w1, w2, i3, T.val_ret]
    rw [e2]
    simp
theorem bwd_loop {r : Int} : ∀ (n : Nat) (W P : List Pr) (x : Pr) (R : List Pr) (k : Nat), W.length = n → r = P.length → (P ++ W ++ x :: R).length ≤ 1000000 → n < k →
    (T.loop (symPrL3Step r) k (((P.length + W.length : Nat) : Int), P ++ W ++ x :: R)).val = some (P ++ x :: W ++ R)
  | 0, W, P, x, R, k, hn, hr, hs, hk => by
    obtain ⟨k, rfl⟩ : ∃ k', k = k' + 1 := ⟨k - 1, by omega⟩
    have : W = [] := by simpa using hn
    subst this
    refine loop_end ?_
    have c : ¬ ((P.length : Int) > r) := by omega
    simp [symPrL3Step, c, T.val_ret]
  | n + 1, W, P, x, R, k, hn, hr, hs, hk => by
    obtain ⟨k, rfl⟩ : ∃ k', k = k' + 1 := ⟨k - 1, by omega⟩
    obtain ⟨W, y, rfl⟩ : ∃ S' y, W = S' ++ [y] := ⟨W.dropLast, W.getLast (by intro h; simp [h] at hn), (List.dropLast_concat_getLast _).symm⟩
    simp only [List.length_append, List.length_cons, List.length_nil] at hn hs
    have e1 : w64 ((P.length + (W ++ [y]).length : Nat) - 1 : Int) = ((P ++ W).length : Int) := by rw [w64_id] <;> (try simp) <;> omega
    have c : ((P.length + (W ++ [y]).length : Nat) : Int) > r := by simp; omega
    have d2 : P ++ (W ++ [y]) ++ x :: R = (P ++ W) ++ y :: (x :: R) := by simp
    have l1 : ((P.length + (W ++ [y]).length : Nat) : Int) = ((P ++ (W ++ [y])).length : Int) := by simp
    have r1 : rd (e := E) (P ++ (W ++ [y]) ++ x :: R) ((P.length + (W ++ [y]).length : Nat) : Int) = x := rd_at rfl l1
    have r2 : rd (e := E) (P ++ (W ++ [y]) ++ x :: R) (w64 ((P.length + (W ++ [y]).length : Nat) - 1 : Int)) = y := rd_at d2 e1
    have i1 := inR_at (e := E) (l := P ++ (W ++ [y]) ++ x :: R) rfl l1
    have i2 := inR_at (e := E) d2 e1
    have w1 : wr (e := E) (P ++ (W ++ [y]) ++ x :: R) ((P.length + (W ++ [y]).length : Nat) : Int) y = (P ++ (W ++ [y])) ++ y :: R := wr_at rfl l1
    have d3 : (P ++ (W ++ [y])) ++ y :: R = (P ++ W) ++ y :: (y :: R) := by simp
    have w2 : wr (e := E) ((P ++ (W ++ [y])) ++ y :: R) (w64 ((P.length + (W ++ [y]).length : Nat) - 1 : Int)) x = (P ++ W) ++ x :: (y :: R) := wr_at d3 e1
    have i3 := inR_at (e := E) d3 e1
    have ih := bwd_loop (r := r) n W P x (y :: R) k (by omega) hr (by simp; omega) (by omega)
    refine loop_step (s' := (((P.length + W.length : Nat) : Int), P ++ W ++ x :: (y :: R))) ?_ (ih.trans (by simp))
    simp only [symPrL3Step, rdE, wrE, c, decide_true, cond_true, i1, i2, r1, r2, w1, w2, i3, T.val_ret]
    rw [e1]
    simp
end SPr
end Go.Ax.Cd
