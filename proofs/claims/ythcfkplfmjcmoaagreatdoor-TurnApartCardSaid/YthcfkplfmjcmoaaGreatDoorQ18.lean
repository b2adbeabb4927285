/- Merged. -/
import Derived.Test.YthcfkplfmjcmoaaGreatDoorQ17
namespace Go.Ax.Cd
open Go.Proofs
set_option linter.unusedVariables false
set_option maxRecDepth 100000
noncomputable abbrev eraT1E : Fe := ⟨284, Tryz.f284, [vi, pm], [.box [.e (.st .era)]], [vb], [.box [.e (.st .era)]]⟩
noncomputable def aGu (n : Int) (e : Era) : Option eraT1E.Y := bif n != -1 then some ((n != e.now, ()), (e, ()), ()) else some ((false, ()), (e, ()), ())
noncomputable def eraT1N : eraT1E.T := eraT1E.un aGu
theorem aXi (x) : eraT1E.run [] [] [] x = eraT1E.un (aGu) x := by kernel_rfl
theorem eraT1_ok : eraT1E.Ok eraT1N := Fe.k (by kernel_rfl) g0 (aA (by kernel_rfl)) (aXi)
noncomputable abbrev idxC2L0E : Le := ⟨1, Tryz.f174, 0, [0, 1, 7, 8], [.s (.e (.sl .int)), .clo 284 [.ptr 0 0], vi, vi], [.box [.e (.st .era)]], ((Fin.one 1 Tryz.f174.ntmps (.exit 0) [] [] [.box [.e (.st .era)]]).or (Fin.one 1 Tryz.f174.ntmps .ret [4] [vi] [.box [.e (.st .era)]]))⟩
noncomputable def kL (p0 : eraT1E.T) (v0 : List Int) (v2 v3 : Int) (e : Era) : Option (idxC2L0E.X ⊕ idxC2L0E.fin.Y) := bif decide (v3 < v2) then bif inR v3 v0.length then (p0 ((rdE EK.int v0 v3, (), ()), (e, ()), ())).bind fun z => bif z.1.1 then some (Sum.inr (Sum.inr ((v3, ()), (z.2.1.1, ()), ()))) else some (Sum.inl ((v0, ((), ()), v2, w64 (v3 + 1), ()), (z.2.1.1, ()), ())) else none else some (Sum.inr (Sum.inl ((), (e, ()), ())))
noncomputable def idxC2L0N : idxC2L0E.T := idxC2L0E.lp (idxC2L0E.un (kL eraT1N))
theorem aKe (p0 : eraT1E.T) (x) : idxC2L0E.run [eraT1E.on p0] [] [] x = idxC2L0E.un (kL p0) x := by kernel_rfl
theorem aPw : idxC2L0E.Ok idxC2L0N := Le.k (fo f1 f1) (eraT1_ok.k g0) (aA (by kernel_rfl)) (aKe eraT1N)
noncomputable abbrev idxC2E : Fe := ⟨174, Tryz.f174, [.s (.e (.sl .int)), .clo 284 [.ptr 0 0]], [.box [.e (.st .era)]], [vi], [.box [.e (.st .era)]]⟩
noncomputable def bCr (p0 : eraT1E.T) (p1 : idxC2L0E.T) (s : List Int) (e : Era) : Option idxC2E.Y := (p1 ((s, ((), ()), Int.ofNat s.length, 0, ()), (e, ()), ())).bind fun z => aH z (fun z => some ((-1, ()), (z.2.1.1, ()), ())) fun z => some ((z.1.1, ()), (z.2.1.1, ()), ())
noncomputable def idxC2N : idxC2E.T := idxC2E.un (bCr eraT1N idxC2L0N)
theorem aXj (p0 : eraT1E.T) (p1 : idxC2L0E.T) (x) : idxC2E.run [eraT1E.on p0] [(2, idxC2L0E.on p1)] [] x = idxC2E.un (bCr p0 p1) x := by kernel_rfl
theorem idxC2_ok : idxC2E.Ok idxC2N := Fe.k (by kernel_rfl) (eraT1_ok.k g0) (bD (by kernel_rfl) (lsc (by kernel_rfl) aPw rfl lsn)) (aXj eraT1N idxC2L0N)
noncomputable abbrev hasC2E : Fe := ⟨111, Tryz.f111, [.s (.e (.sl .int)), .clo 284 [.ptr 0 0]], [.box [.e (.st .era)]], [vb], [.box [.e (.st .era)]]⟩
noncomputable def aGv (p0 : eraT1E.T) (p1 : idxC2E.T) (s : List Int) (e : Era) : Option hasC2E.Y := (p1 ((s, ((), ()), ()), (e, ()), ())).bind fun z => some ((decide (z.1.1 ≥ 0), ()), (z.2.1.1, ()), ())
noncomputable def hasC2N : hasC2E.T := hasC2E.un (aGv eraT1N idxC2N)
theorem aXk (p0 : eraT1E.T) (p1 : idxC2E.T) (x) : hasC2E.run [eraT1E.on p0, idxC2E.on p1] [] [] x = hasC2E.un (aGv p0 p1) x := by kernel_rfl
theorem hasC2_ok : hasC2E.Ok hasC2N := Fe.k (by kernel_rfl) (eraT1_ok.k (idxC2_ok.k g0)) (aA (by kernel_rfl)) (aXk eraT1N idxC2N)
noncomputable abbrev eraTrnE : Fe := ⟨230, Tryz.f230, [.s (.e (.st .era))], [], [.s (.e (.st .era)), vb], []⟩
noncomputable def zD (p0 : clnIE.T) (p1 : hasC1E.T) (p2 : eraChkE.T) (p3 : hasC2E.T) (e : Era) : Option eraTrnE.Y := (p2 ((e, ()), ())).bind fun z => bif z.1.1 != 0 then some ((Era.mk 0 [], false, ()), ()) else (p0 ((e.pins, ()), ())).bind fun z => bif e.now == 1152921504606846976 then some ((Era.mk e.now z.2.1, false, ()), ()) else (p3 ((e.pins, ((), ()), ()), (e, ()), ())).bind fun z1 => bif z1.1.1 then some ((Era.mk e.now z.2.1, false, ()), ()) else some ((Era.mk (w64 (e.now + 1)) z.2.1, true, ()), ())
noncomputable def eraTrnN : eraTrnE.T := eraTrnE.un (zD clnIN hasC1N eraChkN hasC2N)
theorem aPx (p0 : clnIE.T) (p1 : hasC1E.T) (p2 : eraChkE.T) (p3 : hasC2E.T) (x) : eraTrnE.run [clnIE.on p0, hasC1E.on p1, eraChkE.on p2, hasC2E.on p3] [] [] x = eraTrnE.un (zD p0 p1 p2 p3) x := by kernel_rfl
theorem eraTrn_ok : eraTrnE.Ok eraTrnN := Fe.k (by kernel_rfl) (clnI_ok.k (hasC1_ok.k (eraChk_ok.k (hasC2_ok.k g0)))) (aA (by kernel_rfl)) (aPx clnIN hasC1N eraChkN hasC2N)
noncomputable abbrev eraSafE : Fe := ⟨232, Tryz.f232, [.s (.e (.st .era))], [], [vi], []⟩
noncomputable def zF (p0 : eraChkE.T) (e : Era) : Option eraSafE.Y := (p0 ((e, ()), ())).bind fun z => bif z.1.1 != 0 then some ((-1, ()), ()) else some ((w64 (e.now - 2), ()), ())
noncomputable def eraSafN : eraSafE.T := eraSafE.un (zF eraChkN)
theorem aPy (p0 : eraChkE.T) (x) : eraSafE.run [eraChkE.on p0] [] [] x = eraSafE.un (zF p0) x := by kernel_rfl
theorem eraSaf_ok : eraSafE.Ok eraSafN := Fe.k (by kernel_rfl) (eraChk_ok.k g0) (aA (by kernel_rfl)) (aPy eraChkN)
noncomputable abbrev arnChkE : Fe := ⟨109, Tryz.f109, [.s (.e (.st .shr))], [], [vi], []⟩
noncomputable def zG (p0 : eraChkE.T) (p1 : polChkE.T) (s : Shr) : Option arnChkE.Y := (p1 ((s.p0, ()), ())).bind fun z => bif z.1.1 != 0 then some ((z.1.1, ()), ()) else (p1 ((s.p1, ()), ())).bind fun z => bif z.1.1 != 0 then some ((z.1.1, ()), ()) else (p1 ((s.p2, ()), ())).bind fun z => bif z.1.1 != 0 then some ((z.1.1, ()), ()) else (p0 ((s.era, ()), ())).bind fun z => some ((z.1.1, ()), ())
noncomputable def arnChkN : arnChkE.T := arnChkE.un (zG eraChkN polChkN)
theorem aPz (p0 : eraChkE.T) (p1 : polChkE.T) (x) : arnChkE.run [eraChkE.on p0, polChkE.on p1] [] [] x = arnChkE.un (zG p0 p1) x := by kernel_rfl
theorem arnChk_ok : arnChkE.Ok arnChkN := Fe.k (by kernel_rfl) (eraChk_ok.k (polChk_ok.k g0)) (bD (by kernel_rfl) (lsz (f := Tryz.f109) (i := 0) (by kernel_rfl) lsn)) (aPz eraChkN polChkN)
noncomputable abbrev arnMayE : Fe := ⟨177, Tryz.f177, [.s (.e (.st .shr)), vi], [], [vb], []⟩
noncomputable def zH (p0 : arnChkE.T) (s : Shr) (which : Int) : Option arnMayE.Y := bif decide (which ≥ 1) then bif decide (which ≤ 3) then (p0 ((s, ()), ())).bind fun z => some ((z.1.1 == 0, ()), ()) else some ((false, ()), ()) else some ((false, ()), ())
noncomputable def arnMayN : arnMayE.T := arnMayE.un (zH arnChkN)
theorem aQa (p0 : arnChkE.T) (x) : arnMayE.run [arnChkE.on p0] [] [] x = arnMayE.un (zH p0) x := by kernel_rfl
theorem arnMay_ok : arnMayE.Ok arnMayN := Fe.k (by kernel_rfl) (arnChk_ok.k g0) (aA (by kernel_rfl)) (aQa arnChkN)
noncomputable abbrev arnTakE : Fe := ⟨126, Tryz.f126, [.s (.e (.st .shr)), vi], [], [.s (.e (.st .shr)), vi, vi], []⟩
noncomputable def zI (p0 : polTakE.T) (p1 : arnMayE.T) (s : Shr) (which : Int) : Option arnTakE.Y := (p1 ((s, which, ()), ())).bind fun z => bif !z.1.1 then some ((Shr.mk [] [] (Pool.mk [] [] [] []) (Pool.mk [] [] [] []) (Pool.mk [] [] [] []) (Era.mk 0 []), 0, 1, ()), ()) else bif inR (w64 (which - 1)) 3 then (p0 ((Pool.mk (rdE EK.int.sl [s.p0.gens, s.p1.gens, s.p2.gens] (w64 (which - 1))) (rdE EK.int.sl [s.p0.states, s.p1.states, s.p2.states] (w64 (which - 1))) (rdE EK.int.sl [s.p0.when_, s.p1.when_, s.p2.when_] (w64 (which - 1))) (rdE EK.int.sl [s.p0.free, s.p1.free, s.p2.free] (w64 (which - 1))), ()), ())).bind fun z => bif z.1.2.2.1 != 0 then some ((Shr.mk [] [] (Pool.mk [] [] [] []) (Pool.mk [] [] [] []) (Pool.mk [] [] [] []) (Era.mk 0 []), 0, z.1.2.2.1, ()), ()) else bif inR (w64 (which - 1)) 3 then some ((Shr.mk s.mem s.latches (Pool.mk (bif w64 (which - 1) == 0 then z.1.1.gens else s.p0.gens) (bif w64 (which - 1) == 0 then z.1.1.states else s.p0.states) (bif w64 (which - 1) == 0 then z.1.1.when_ else s.p0.when_) (bif w64 (which - 1) == 0 then z.1.1.free else s.p0.free)) (Pool.mk (bif w64 (which - 1) == 1 then z.1.1.gens else s.p1.gens) (bif w64 (which - 1) == 1 then z.1.1.states else s.p1.states) (bif w64 (which - 1) == 1 then z.1.1.when_ else s.p1.when_) (bif w64 (which - 1) == 1 then z.1.1.free else s.p1.free)) (Pool.mk (bif w64 (which - 1) == 2 then z.1.1.gens else s.p2.gens) (bif w64 (which - 1) == 2 then z.1.1.states else s.p2.states) (bif w64 (which - 1) == 2 then z.1.1.when_ else s.p2.when_) (bif w64 (which - 1) == 2 then z.1.1.free else s.p2.free)) s.era, z.1.2.1, 0, ()), ()) else none else none
noncomputable def arnTakN : arnTakE.T := arnTakE.un (zI polTakN arnMayN)
theorem aQb (p0 : polTakE.T) (p1 : arnMayE.T) (x) : arnTakE.run [polTakE.on p0, arnMayE.on p1] [] [] x = arnTakE.un (zI p0 p1) x := by kernel_rfl
theorem arnTak_ok : arnTakE.Ok arnTakN := Fe.k (by kernel_rfl) (polTak_ok.k (arnMay_ok.k g0)) (aA (by kernel_rfl)) (aQb polTakN arnMayN)
noncomputable abbrev arnRetE : Fe := ⟨125, Tryz.f125, [.s (.e (.st .shr)), vi, vi], [], [.s (.e (.st .shr)), vi], []⟩
noncomputable def zJ (p0 : polRetE.T) (p1 : arnMayE.T) (s : Shr) (which ref : Int) : Option arnRetE.Y := (p1 ((s, which, ()), ())).bind fun z => bif !z.1.1 then some ((Shr.mk [] [] (Pool.mk [] [] [] []) (Pool.mk [] [] [] []) (Pool.mk [] [] [] []) (Era.mk 0 []), 1, ()), ()) else bif inR (w64 (which - 1)) 3 then (p0 ((Pool.mk (rdE EK.int.sl [s.p0.gens, s.p1.gens, s.p2.gens] (w64 (which - 1))) (rdE EK.int.sl [s.p0.states, s.p1.states, s.p2.states] (w64 (which - 1))) (rdE EK.int.sl [s.p0.when_, s.p1.when_, s.p2.when_] (w64 (which - 1))) (rdE EK.int.sl [s.p0.free, s.p1.free, s.p2.free] (w64 (which - 1))), ref, s.era.now, ()), ())).bind fun z => bif z.1.2.1 != 0 then some ((Shr.mk [] [] (Pool.mk [] [] [] []) (Pool.mk [] [] [] []) (Pool.mk [] [] [] []) (Era.mk 0 []), z.1.2.1, ()), ()) else bif inR (w64 (which - 1)) 3 then some ((Shr.mk s.mem s.latches (Pool.mk (bif w64 (which - 1) == 0 then z.1.1.gens else s.p0.gens) (bif w64 (which - 1) == 0 then z.1.1.states else s.p0.states) (bif w64 (which - 1) == 0 then z.1.1.when_ else s.p0.when_) (bif w64 (which - 1) == 0 then z.1.1.free else s.p0.free)) (Pool.mk (bif w64 (which - 1) == 1 then z.1.1.gens else s.p1.gens) (bif w64 (which - 1) == 1 then z.1.1.states else s.p1.states) (bif w64 (which - 1) == 1 then z.1.1.when_ else s.p1.when_) (bif w64 (which - 1) == 1 then z.1.1.free else s.p1.free)) (Pool.mk (bif w64 (which - 1) == 2 then z.1.1.gens else s.p2.gens) (bif w64 (which - 1) == 2 then z.1.1.states else s.p2.states) (bif w64 (which - 1) == 2 then z.1.1.when_ else s.p2.when_) (bif w64 (which - 1) == 2 then z.1.1.free else s.p2.free)) s.era, 0, ()), ()) else none else none
noncomputable def arnRetN : arnRetE.T := arnRetE.un (zJ polRetN arnMayN)
theorem aQc (p0 : polRetE.T) (p1 : arnMayE.T) (x) : arnRetE.run [polRetE.on p0, arnMayE.on p1] [] [] x = arnRetE.un (zJ p0 p1) x := by kernel_rfl
theorem arnRet_ok : arnRetE.Ok arnRetN := Fe.k (by kernel_rfl) (polRet_ok.k (arnMay_ok.k g0)) (aA (by kernel_rfl)) (aQc polRetN arnMayN)
noncomputable abbrev arnGenE : Fe := ⟨119, Tryz.f119, [.s (.e (.st .shr)), vi, vi], [], [vi, vi, vi], []⟩
noncomputable def zK (p0 : tagUnpE.T) (p1 : arnMayE.T) (s : Shr) (which ref : Int) : Option arnGenE.Y := (p0 ((ref, ()), ())).bind fun z => bif z.1.2.2.1 != 0 then some ((0, 0, 1, ()), ()) else (p1 ((s, which, ()), ())).bind fun z1 => bif !z1.1.1 then some ((0, 0, 1, ()), ()) else bif inR (w64 (which - 1)) 3 then bif decide (z.1.1 ≥ Int.ofNat (List.length (rdE EK.int.sl [s.p0.gens, s.p1.gens, s.p2.gens] (w64 (which - 1))))) then some ((0, 0, 1, ()), ()) else bif inR (w64 (which - 1)) 3 then bif inR z.1.1 (List.length (rdE EK.int.sl [s.p0.gens, s.p1.gens, s.p2.gens] (w64 (which - 1)))) then bif inR z.1.1 (List.length (rdE EK.int.sl [s.p0.states, s.p1.states, s.p2.states] (w64 (which - 1)))) then some ((rdE EK.int (rdE EK.int.sl [s.p0.gens, s.p1.gens, s.p2.gens] (w64 (which - 1))) z.1.1, rdE EK.int (rdE EK.int.sl [s.p0.states, s.p1.states, s.p2.states] (w64 (which - 1))) z.1.1, 0, ()), ()) else none else none else none else none
noncomputable def arnGenN : arnGenE.T := arnGenE.un (zK tagUnpN arnMayN)
theorem aQd (p0 : tagUnpE.T) (p1 : arnMayE.T) (x) : arnGenE.run [tagUnpE.on p0, arnMayE.on p1] [] [] x = arnGenE.un (zK p0 p1) x := by kernel_rfl
theorem arnGen_ok : arnGenE.Ok arnGenN := Fe.k (by kernel_rfl) (tagUnp_ok.k (arnMay_ok.k g0)) (aA (by kernel_rfl)) (aQd tagUnpN arnMayN)
noncomputable abbrev arnPinE : Fe := ⟨123, Tryz.f123, [.s (.e (.st .shr)), vi], [], [.s (.e (.st .shr)), vi], []⟩
noncomputable def zL (p0 : eraPinE.T) (p1 : arnMayE.T) (s : Shr) (t : Int) : Option arnPinE.Y := (p1 ((s, 1, ()), ())).bind fun z => bif !z.1.1 then some ((Shr.mk [] [] (Pool.mk [] [] [] []) (Pool.mk [] [] [] []) (Pool.mk [] [] [] []) (Era.mk 0 []), 1, ()), ()) else (p0 ((s.era, t, ()), ())).bind fun z => bif z.1.2.1 != 0 then some ((Shr.mk [] [] (Pool.mk [] [] [] []) (Pool.mk [] [] [] []) (Pool.mk [] [] [] []) (Era.mk 0 []), z.1.2.1, ()), ()) else some ((Shr.mk s.mem s.latches s.p0 s.p1 s.p2 z.1.1, 0, ()), ())
noncomputable def arnPinN : arnPinE.T := arnPinE.un (zL eraPinN arnMayN)
theorem aQe (p0 : eraPinE.T) (p1 : arnMayE.T) (x) : arnPinE.run [eraPinE.on p0, arnMayE.on p1] [] [] x = arnPinE.un (zL p0 p1) x := by kernel_rfl
theorem arnPin_ok : arnPinE.Ok arnPinN := Fe.k (by kernel_rfl) (eraPin_ok.k (arnMay_ok.k g0)) (aA (by kernel_rfl)) (aQe eraPinN arnMayN)
noncomputable abbrev arnTrnE : Fe := ⟨180, Tryz.f180, [.s (.e (.st .shr))], [], [.s (.e (.st .shr)), vb], []⟩
noncomputable def zM (p0 : polRecE.T) (p1 : eraTrnE.T) (p2 : eraSafE.T) (p3 : arnMayE.T) (s : Shr) : Option arnTrnE.Y := (p3 ((s, 1, ()), ())).bind fun z => bif !z.1.1 then some ((Shr.mk [] [] (Pool.mk [] [] [] []) (Pool.mk [] [] [] []) (Pool.mk [] [] [] []) (Era.mk 0 []), false, ()), ()) else (p1 ((s.era, ()), ())).bind fun z => bif z.1.2.1 then (p2 ((z.1.1, ()), ())).bind fun z1 => (p0 ((s.p0, z1.1.1, ()), ())).bind fun z2 => (p2 ((z.1.1, ()), ())).bind fun z3 => (p0 ((s.p1, z3.1.1, ()), ())).bind fun z4 => (p2 ((z.1.1, ()), ())).bind fun z5 => (p0 ((s.p2, z5.1.1, ()), ())).bind fun z6 => some ((Shr.mk s.mem s.latches z2.1.1 z4.1.1 z6.1.1 z.1.1, z.1.2.1, ()), ()) else some ((Shr.mk s.mem s.latches s.p0 s.p1 s.p2 z.1.1, z.1.2.1, ()), ())
noncomputable def arnTrnN : arnTrnE.T := arnTrnE.un (zM polRecN eraTrnN eraSafN arnMayN)
theorem aQf (p0 : polRecE.T) (p1 : eraTrnE.T) (p2 : eraSafE.T) (p3 : arnMayE.T) (x) : arnTrnE.run [polRecE.on p0, eraTrnE.on p1, eraSafE.on p2, arnMayE.on p3] [] [] x = arnTrnE.un (zM p0 p1 p2 p3) x := by kernel_rfl
theorem arnTrn_ok : arnTrnE.Ok arnTrnN := Fe.k (by kernel_rfl) (polRec_ok.k (eraTrn_ok.k (eraSaf_ok.k (arnMay_ok.k g0)))) (bD (by kernel_rfl) (lsz (f := Tryz.f180) (i := 0) (by kernel_rfl) lsn)) (aQf polRecN eraTrnN eraSafN arnMayN)
noncomputable abbrev arnEndE : Fe := ⟨124, Tryz.f124, [.s (.e (.st .shr)), vi], [], [.s (.e (.st .shr)), vi], []⟩
noncomputable def zN (p0 : eraUnpE.T) (p1 : arnMayE.T) (p2 : arnTrnE.T) (s : Shr) (t : Int) : Option arnEndE.Y := (p1 ((s, 1, ()), ())).bind fun z => bif !z.1.1 then some ((Shr.mk [] [] (Pool.mk [] [] [] []) (Pool.mk [] [] [] []) (Pool.mk [] [] [] []) (Era.mk 0 []), 1, ()), ()) else (p0 ((s.era, t, ()), ())).bind fun z => bif z.1.2.1 != 0 then some ((Shr.mk [] [] (Pool.mk [] [] [] []) (Pool.mk [] [] [] []) (Pool.mk [] [] [] []) (Era.mk 0 []), z.1.2.1, ()), ()) else (p2 ((Shr.mk s.mem s.latches s.p0 s.p1 s.p2 z.1.1, ()), ())).bind fun z => some ((z.1.1, 0, ()), ())
noncomputable def arnEndN : arnEndE.T := arnEndE.un (zN eraUnpN arnMayN arnTrnN)
theorem aQg (p0 : eraUnpE.T) (p1 : arnMayE.T) (p2 : arnTrnE.T) (x) : arnEndE.run [eraUnpE.on p0, arnMayE.on p1, arnTrnE.on p2] [] [] x = arnEndE.un (zN p0 p1 p2) x := by kernel_rfl
theorem arnEnd_ok : arnEndE.Ok arnEndN := Fe.k (by kernel_rfl) (eraUnp_ok.k (arnMay_ok.k (arnTrn_ok.k g0))) (aA (by kernel_rfl)) (aQg eraUnpN arnMayN arnTrnN)
noncomputable abbrev shpC1E : Fe := ⟨112, Tryz.f112, [vi], [], [vb], []⟩
noncomputable def aGw (p0 : latChkE.T) (w : Int) : Option shpC1E.Y := (p0 ((w, ()), ())).bind fun z => some ((z.1.1 != 0, ()), ())
noncomputable def shpC1N : shpC1E.T := shpC1E.un (aGw latChkN)
theorem aXl (p0 : latChkE.T) (x) : shpC1E.run [latChkE.on p0] [] [] x = shpC1E.un (aGw p0) x := by kernel_rfl
theorem shpC1_ok : shpC1E.Ok shpC1N := Fe.k (by kernel_rfl) (latChk_ok.k g0) (aA (by kernel_rfl)) (aXl latChkN)
noncomputable abbrev idxC3L0E : Le := ⟨0, Tryz.f174, 0, [0, 1, 7, 8], [.s (.e (.sl .int)), .clo 112 [], vi, vi], [], ((Fin.one 0 Tryz.f174.ntmps (.exit 0) [] [] []).or (Fin.one 0 Tryz.f174.ntmps .ret [4] [vi] []))⟩
noncomputable def kM (p0 : shpC1E.T) (v0 : List Int) (v1 v2 : Int) : Option (idxC3L0E.X ⊕ idxC3L0E.fin.Y) := bif decide (v2 < v1) then bif inR v2 v0.length then (p0 ((rdE EK.int v0 v2, ()), ())).bind fun z => bif z.1.1 then some (Sum.inr (Sum.inr ((v2, ()), ()))) else some (Sum.inl ((v0, (), v1, w64 (v2 + 1), ()), ())) else none else some (Sum.inr (Sum.inl ((), ())))
noncomputable def idxC3L0N : idxC3L0E.T := idxC3L0E.lp (idxC3L0E.un (kM shpC1N))
theorem aKf (p0 : shpC1E.T) (x) : idxC3L0E.run [shpC1E.on p0] [] [] x = idxC3L0E.un (kM p0) x := by kernel_rfl
theorem aQh : idxC3L0E.Ok idxC3L0N := Le.k (fo f1 f1) (shpC1_ok.k g0) (aA (by kernel_rfl)) (aKf shpC1N)
noncomputable abbrev idxC3E : Fe := ⟨174, Tryz.f174, [.s (.e (.sl .int)), .clo 112 []], [], [vi], []⟩
noncomputable def bCs (p0 : shpC1E.T) (p1 : idxC3L0E.T) (s : List Int) : Option idxC3E.Y := (p1 ((s, (), Int.ofNat s.length, 0, ()), ())).bind fun z => aH z (fun z => some ((-1, ()), ())) fun z => some ((z.1.1, ()), ())
noncomputable def idxC3N : idxC3E.T := idxC3E.un (bCs shpC1N idxC3L0N)
theorem aXm (p0 : shpC1E.T) (p1 : idxC3L0E.T) (x) : idxC3E.run [shpC1E.on p0] [(2, idxC3L0E.on p1)] [] x = idxC3E.un (bCs p0 p1) x := by kernel_rfl
theorem idxC3_ok : idxC3E.Ok idxC3N := Fe.k (by kernel_rfl) (shpC1_ok.k g0) (bD (by kernel_rfl) (lsc (by kernel_rfl) aQh rfl lsn)) (aXm shpC1N idxC3L0N)
noncomputable abbrev hasC3E : Fe := ⟨111, Tryz.f111, [.s (.e (.sl .int)), .clo 112 []], [], [vb], []⟩
noncomputable def aGx (p0 : shpC1E.T) (p1 : idxC3E.T) (s : List Int) : Option hasC3E.Y := (p1 ((s, (), ()), ())).bind fun z => some ((decide (z.1.1 ≥ 0), ()), ())
noncomputable def hasC3N : hasC3E.T := hasC3E.un (aGx shpC1N idxC3N)
theorem aXn (p0 : shpC1E.T) (p1 : idxC3E.T) (x) : hasC3E.run [shpC1E.on p0, idxC3E.on p1] [] [] x = hasC3E.un (aGx p0 p1) x := by kernel_rfl
theorem hasC3_ok : hasC3E.Ok hasC3N := Fe.k (by kernel_rfl) (shpC1_ok.k (idxC3_ok.k g0)) (aA (by kernel_rfl)) (aXn shpC1N idxC3N)
noncomputable abbrev shpChkE : Fe := ⟨78, Tryz.f78, [.s (.e (.st .cfg)), .s (.e (.st .shr))], [], [vi], []⟩
noncomputable def zO (p0 : plcChkE.T) (p1 : hasC1E.T) (p2 : hasC2E.T) (p3 : arnChkE.T) (p4 : plcSizE.T) (p5 : shpC1E.T) (p6 : hasC3E.T) (c : Cfg) (s : Shr) : Option shpChkE.Y := (p0 ((c, ()), ())).bind fun z => bif z.1.1 != 0 then some ((1, ()), ()) else (p3 ((s, ()), ())).bind fun z => bif z.1.1 != 0 then some ((1, ()), ()) else (p4 ((c, ()), ())).bind fun z => bif Int.ofNat s.mem.length != z.1.1 then some ((1, ()), ()) else bif Int.ofNat s.latches.length != w64 (c.ids + 1) then some ((1, ()), ()) else bif Int.ofNat s.p0.gens.length != c.nodes then some ((1, ()), ()) else bif Int.ofNat s.p1.gens.length != c.edges then some ((1, ()), ()) else bif Int.ofNat s.p2.gens.length != c.props then some ((1, ()), ()) else (p6 ((s.latches, (), ()), ())).bind fun z => bif z.1.1 then some ((1, ()), ()) else some ((0, ()), ())
noncomputable def shpChkN : shpChkE.T := shpChkE.un (zO plcChkN hasC1N hasC2N arnChkN plcSizN shpC1N hasC3N)
theorem aQi (p0 : plcChkE.T) (p1 : hasC1E.T) (p2 : hasC2E.T) (p3 : arnChkE.T) (p4 : plcSizE.T) (p5 : shpC1E.T) (p6 : hasC3E.T) (x) : shpChkE.run [plcChkE.on p0, hasC1E.on p1, hasC2E.on p2, arnChkE.on p3, plcSizE.on p4, shpC1E.on p5, hasC3E.on p6] [] [] x = shpChkE.un (zO p0 p1 p2 p3 p4 p5 p6) x := by kernel_rfl
theorem shpChk_ok : shpChkE.Ok shpChkN := Fe.k (by kernel_rfl) (plcChk_ok.k (hasC1_ok.k (hasC2_ok.k (arnChk_ok.k (plcSiz_ok.k (shpC1_ok.k (hasC3_ok.k g0))))))) (bD (by kernel_rfl) (lsz (f := Tryz.f78) (i := 0) (by kernel_rfl) lsn)) (aQi plcChkN hasC1N hasC2N arnChkN plcSizN shpC1N hasC3N)
noncomputable abbrev askHasE : Fe := ⟨105, Tryz.f105, [.s (.e (.st .shr)), vi], [], [vb], []⟩
noncomputable def zQ (s : Shr) (at_ : Int) : Option askHasE.Y := bif decide (at_ ≥ 0) then some ((decide (at_ < Int.ofNat s.latches.length), ()), ()) else some ((false, ()), ())
noncomputable def askHasN : askHasE.T := askHasE.un zQ
theorem aQj (x) : askHasE.run [] [] [] x = askHasE.un (zQ) x := by kernel_rfl
theorem askHas_ok : askHasE.Ok askHasN := Fe.k (by kernel_rfl) g0 (aA (by kernel_rfl)) (aQj)
noncomputable abbrev askWaiE : Fe := ⟨72, Tryz.f72, [.s (.e (.st .shr)), .s (.e (.st .acc))], [], [vb], []⟩
noncomputable def zT (p0 : latHeldE.T) (p1 : askHasE.T) (s : Shr) (a : Acc) : Option askWaiE.Y := bif a.kind == 5 then (p1 ((s, a.at_, ()), ())).bind fun z => bif z.1.1 then bif inR a.at_ s.latches.length then (p0 ((rdE EK.int s.latches a.at_, ()), ())).bind fun z => some ((z.1.1, ()), ()) else none else some ((false, ()), ()) else bif a.kind == 7 then (p1 ((s, a.at_, ()), ())).bind fun z => bif z.1.1 then bif inR a.at_ s.latches.length then (p0 ((rdE EK.int s.latches a.at_, ()), ())).bind fun z => some ((z.1.1, ()), ()) else none else some ((false, ()), ()) else some ((false, ()), ())
noncomputable def askWaiN : askWaiE.T := askWaiE.un (zT latHeldN askHasN)
theorem aQk (p0 : latHeldE.T) (p1 : askHasE.T) (x) : askWaiE.run [latHeldE.on p0, askHasE.on p1] [] [] x = askWaiE.un (zT p0 p1) x := by kernel_rfl
theorem askWai_ok : askWaiE.Ok askWaiN := Fe.k (by kernel_rfl) (latHeld_ok.k (askHas_ok.k g0)) (aA (by kernel_rfl)) (aQk latHeldN askHasN)
noncomputable abbrev askWitE : Fe := ⟨121, Tryz.f121, [.s (.e (.st .shr)), vi, vi], [], [.s (.e (.st .shr))], []⟩
noncomputable def zU (p0 : clnIE.T) (s : Shr) (at_ w : Int) : Option askWitE.Y := (p0 ((s.latches, ()), ())).bind fun z => bif inR at_ (List.length z.2.1) then some ((Shr.mk s.mem (wrE EK.int z.2.1 at_ w) s.p0 s.p1 s.p2 s.era, ()), ()) else none
noncomputable def askWitN : askWitE.T := askWitE.un (zU clnIN)
theorem aQl (p0 : clnIE.T) (x) : askWitE.run [clnIE.on p0] [] [] x = askWitE.un (zU p0) x := by kernel_rfl
theorem askWit_ok : askWitE.Ok askWitN := Fe.k (by kernel_rfl) (clnI_ok.k g0) (aA (by kernel_rfl)) (aQl clnIN)
noncomputable abbrev askLatE : Fe := ⟨81, Tryz.f81, [.s (.e (.st .shr)), .s (.e (.st .acc))], [], [.s (.e (.st .shr)), vi, vi], []⟩
noncomputable def zV (p0 : latTryE.T) (p1 : latFreeE.T) (p2 : askHasE.T) (p3 : askWitE.T) (s : Shr) (a : Acc) : Option askLatE.Y := (p2 ((s, a.at_, ()), ())).bind fun z => bif !z.1.1 then some ((s, 0, 1, ()), ()) else bif inR a.at_ s.latches.length then bif a.kind == 5 then (p0 ((rdE EK.int s.latches a.at_, ()), ())).bind fun z => bif !z.1.2.1 then some ((s, 0, 1, ()), ()) else (p3 ((s, a.at_, z.1.1, ()), ())).bind fun z => some ((z.1.1, 0, 0, ()), ()) else bif a.kind == 6 then (p1 ((rdE EK.int s.latches a.at_, ()), ())).bind fun z => bif z.1.2.1 != 0 then some ((s, 0, z.1.2.1, ()), ()) else (p3 ((s, a.at_, z.1.1, ()), ())).bind fun z => some ((z.1.1, 0, 0, ()), ()) else some ((s, rdE EK.int s.latches a.at_, 0, ()), ()) else none
noncomputable def askLatN : askLatE.T := askLatE.un (zV latTryN latFreeN askHasN askWitN)
theorem aQm (p0 : latTryE.T) (p1 : latFreeE.T) (p2 : askHasE.T) (p3 : askWitE.T) (x) : askLatE.run [latTryE.on p0, latFreeE.on p1, askHasE.on p2, askWitE.on p3] [] [] x = askLatE.un (zV p0 p1 p2 p3) x := by kernel_rfl
theorem askLat_ok : askLatE.Ok askLatN := Fe.k (by kernel_rfl) (latTry_ok.k (latFree_ok.k (askHas_ok.k (askWit_ok.k g0)))) (aA (by kernel_rfl)) (aQm latTryN latFreeN askHasN askWitN)
noncomputable abbrev askRecE : Fe := ⟨82, Tryz.f82, [.s (.e (.st .shr)), vi, .s (.e (.st .acc))], [], [.s (.e (.st .shr)), vi, vi], []⟩
noncomputable def zX (p0 : arnTakE.T) (p1 : arnRetE.T) (p2 : arnPinE.T) (p3 : arnEndE.T) (s : Shr) (t : Int) (a : Acc) : Option askRecE.Y := bif a.kind == 1 then (p2 ((s, t, ()), ())).bind fun z => some ((z.1.1, 0, z.1.2.1, ()), ()) else bif a.kind == 2 then (p3 ((s, t, ()), ())).bind fun z => some ((z.1.1, 0, z.1.2.1, ()), ()) else bif a.kind == 9 then (p1 ((s, a.which, a.ref, ()), ())).bind fun z => some ((z.1.1, 0, z.1.2.1, ()), ()) else bif a.kind == 8 then (p0 ((s, a.which, ()), ())).bind fun z => bif z.1.2.2.1 == 3 then some ((s, 0, 0, ()), ()) else some (z.1, ()) else some ((s, 0, 0, ()), ())
noncomputable def askRecN : askRecE.T := askRecE.un (zX arnTakN arnRetN arnPinN arnEndN)
theorem aQn (p0 : arnTakE.T) (p1 : arnRetE.T) (p2 : arnPinE.T) (p3 : arnEndE.T) (x) : askRecE.run [arnTakE.on p0, arnRetE.on p1, arnPinE.on p2, arnEndE.on p3] [] [] x = askRecE.un (zX p0 p1 p2 p3) x := by kernel_rfl
theorem askRec_ok : askRecE.Ok askRecN := Fe.k (by kernel_rfl) (arnTak_ok.k (arnRet_ok.k (arnPin_ok.k (arnEnd_ok.k g0)))) (aA (by kernel_rfl)) (aQn arnTakN arnRetN arnPinN arnEndN)
noncomputable abbrev askWrdE : Fe := ⟨79, Tryz.f79, [.s (.e (.st .cfg)), .s (.e (.st .shr)), .s (.e (.st .acc))], [], [.s (.e (.st .shr)), vi, vi], []⟩
noncomputable def zY (p0 : memLoadE.T) (p1 : memStoreE.T) (p2 : chnFldE.T) (p3 : chnPutE.T) (c : Cfg) (s : Shr) (a : Acc) : Option askWrdE.Y := bif a.kind == 3 then bif a.which != 0 then (p2 ((c, s.mem, a.which, a.ref, a.field, ()), ())).bind fun z => some ((s, z.1), ()) else bif a.kind == 3 then (p0 ((s.mem, a.at_, ()), ())).bind fun z => some ((s, z.1), ()) else bif a.which != 0 then (p3 ((c, s.mem, a.which, a.ref, a.field, a.value, ()), ())).bind fun z => some ((Shr.mk z.1.1 s.latches s.p0 s.p1 s.p2 s.era, 0, z.1.2.1, ()), ()) else (p1 ((s.mem, a.at_, a.value, ()), ())).bind fun z => some ((Shr.mk z.1.1 s.latches s.p0 s.p1 s.p2 s.era, 0, z.1.2.1, ()), ()) else bif a.kind == 3 then (p0 ((s.mem, a.at_, ()), ())).bind fun z => some ((s, z.1), ()) else bif a.which != 0 then (p3 ((c, s.mem, a.which, a.ref, a.field, a.value, ()), ())).bind fun z => some ((Shr.mk z.1.1 s.latches s.p0 s.p1 s.p2 s.era, 0, z.1.2.1, ()), ()) else (p1 ((s.mem, a.at_, a.value, ()), ())).bind fun z => some ((Shr.mk z.1.1 s.latches s.p0 s.p1 s.p2 s.era, 0, z.1.2.1, ()), ())
noncomputable def askWrdN : askWrdE.T := askWrdE.un (zY memLoadN memStoreN chnFldN chnPutN)
theorem aQo (p0 : memLoadE.T) (p1 : memStoreE.T) (p2 : chnFldE.T) (p3 : chnPutE.T) (x) : askWrdE.run [memLoadE.on p0, memStoreE.on p1, chnFldE.on p2, chnPutE.on p3] [] [] x = askWrdE.un (zY p0 p1 p2 p3) x := by kernel_rfl
theorem askWrd_ok : askWrdE.Ok askWrdN := Fe.k (by kernel_rfl) (memLoad_ok.k (memStore_ok.k (chnFld_ok.k (chnPut_ok.k g0)))) (aA (by kernel_rfl)) (aQo memLoadN memStoreN chnFldN chnPutN)
noncomputable abbrev askTouE : Fe := ⟨80, Tryz.f80, [.s (.e (.st .shr)), vi, .s (.e (.st .acc))], [], [.s (.e (.sl (.st .tou)))], []⟩
noncomputable def zZ (p0 : tagUnpE.T) (p1 : arnGenE.T) (s : Shr) (t : Int) (a : Acc) : Option askTouE.Y := (p0 ((a.ref, ()), ())).bind fun z => (p1 ((s, a.which, a.ref, ()), ())).bind fun z1 => some (([Tou.mk t a.which z.1.1 a.field z.1.2.1 z1.1.1 z1.1.2.1 (a.kind == 4)], ()), ())
noncomputable def askTouN : askTouE.T := askTouE.un (zZ tagUnpN arnGenN)
theorem aQp (p0 : tagUnpE.T) (p1 : arnGenE.T) (x) : askTouE.run [tagUnpE.on p0, arnGenE.on p1] [] [] x = askTouE.un (zZ p0 p1) x := by kernel_rfl
theorem askTou_ok : askTouE.Ok askTouN := Fe.k (by kernel_rfl) (tagUnp_ok.k (arnGen_ok.k g0)) (aA (by kernel_rfl)) (aQp tagUnpN arnGenN)
noncomputable abbrev askDoE : Fe := ⟨29, Tryz.f29, [.s (.e (.st .cfg)), .s (.e (.st .shr)), vi, .s (.e (.st .acc))], [], [.s (.e (.st .shr)), vi, .s (.e (.sl (.st .tou))), vi], []⟩
noncomputable def aGy (p0 : shpChkE.T) (p1 : askWaiE.T) (p2 : askLatE.T) (p3 : askRecE.T) (p4 : askWrdE.T) (p5 : askTouE.T) (c : Cfg) (s : Shr) (t : Int) (a : Acc) : Option askDoE.Y := (p0 ((c, s, ()), ())).bind fun z => bif z.1.1 != 0 then some ((Shr.mk [] [] (Pool.mk [] [] [] []) (Pool.mk [] [] [] []) (Pool.mk [] [] [] []) (Era.mk 0 []), 0, [], z.1.1, ()), ()) else (p1 ((s, a, ()), ())).bind fun z => bif z.1.1 then some ((Shr.mk [] [] (Pool.mk [] [] [] []) (Pool.mk [] [] [] []) (Pool.mk [] [] [] []) (Era.mk 0 []), 0, [], 2, ()), ()) else bif a.kind == 3 then (p4 ((c, s, a, ()), ())).bind fun z => bif z.1.2.2.1 == 0 then bif a.which != 0 then (p5 ((s, t, a, ()), ())).bind fun z1 => bif z.1.2.2.1 != 0 then some ((Shr.mk [] [] (Pool.mk [] [] [] []) (Pool.mk [] [] [] []) (Pool.mk [] [] [] []) (Era.mk 0 []), 0, [], z.1.2.2.1, ()), ()) else some ((z.1.1, z.1.2.1, z1.1.1, 0, ()), ()) else bif z.1.2.2.1 != 0 then some ((Shr.mk [] [] (Pool.mk [] [] [] []) (Pool.mk [] [] [] []) (Pool.mk [] [] [] []) (Era.mk 0 []), 0, [], z.1.2.2.1, ()), ()) else some ((z.1.1, z.1.2.1, [], 0, ()), ()) else bif z.1.2.2.1 != 0 then some ((Shr.mk [] [] (Pool.mk [] [] [] []) (Pool.mk [] [] [] []) (Pool.mk [] [] [] []) (Era.mk 0 []), 0, [], z.1.2.2.1, ()), ()) else some ((z.1.1, z.1.2.1, [], 0, ()), ()) else bif a.kind == 4 then (p4 ((c, s, a, ()), ())).bind fun z => bif z.1.2.2.1 == 0 then bif a.which != 0 then (p5 ((s, t, a, ()), ())).bind fun z1 => bif z.1.2.2.1 != 0 then some ((Shr.mk [] [] (Pool.mk [] [] [] []) (Pool.mk [] [] [] []) (Pool.mk [] [] [] []) (Era.mk 0 []), 0, [], z.1.2.2.1, ()), ()) else some ((z.1.1, z.1.2.1, z1.1.1, 0, ()), ()) else bif z.1.2.2.1 != 0 then some ((Shr.mk [] [] (Pool.mk [] [] [] []) (Pool.mk [] [] [] []) (Pool.mk [] [] [] []) (Era.mk 0 []), 0, [], z.1.2.2.1, ()), ()) else some ((z.1.1, z.1.2.1, [], 0, ()), ()) else bif z.1.2.2.1 != 0 then some ((Shr.mk [] [] (Pool.mk [] [] [] []) (Pool.mk [] [] [] []) (Pool.mk [] [] [] []) (Era.mk 0 []), 0, [], z.1.2.2.1, ()), ()) else some ((z.1.1, z.1.2.1, [], 0, ()), ()) else bif a.kind == 5 then (p2 ((s, a, ()), ())).bind fun z => bif z.1.2.2.1 != 0 then some ((Shr.mk [] [] (Pool.mk [] [] [] []) (Pool.mk [] [] [] []) (Pool.mk [] [] [] []) (Era.mk 0 []), 0, [], z.1.2.2.1, ()), ()) else some ((z.1.1, z.1.2.1, [], 0, ()), ()) else bif a.kind == 6 then (p2 ((s, a, ()), ())).bind fun z => bif z.1.2.2.1 != 0 then some ((Shr.mk [] [] (Pool.mk [] [] [] []) (Pool.mk [] [] [] []) (Pool.mk [] [] [] []) (Era.mk 0 []), 0, [], z.1.2.2.1, ()), ()) else some ((z.1.1, z.1.2.1, [], 0, ()), ()) else bif a.kind == 7 then (p2 ((s, a, ()), ())).bind fun z => bif z.1.2.2.1 != 0 then some ((Shr.mk [] [] (Pool.mk [] [] [] []) (Pool.mk [] [] [] []) (Pool.mk [] [] [] []) (Era.mk 0 []), 0, [], z.1.2.2.1, ()), ()) else some ((z.1.1, z.1.2.1, [], 0, ()), ()) else bif a.kind == 1 then (p3 ((s, t, a, ()), ())).bind fun z => bif z.1.2.2.1 != 0 then some ((Shr.mk [] [] (Pool.mk [] [] [] []) (Pool.mk [] [] [] []) (Pool.mk [] [] [] []) (Era.mk 0 []), 0, [], z.1.2.2.1, ()), ()) else some ((z.1.1, z.1.2.1, [], 0, ()), ()) else bif a.kind == 2 then (p3 ((s, t, a, ()), ())).bind fun z => bif z.1.2.2.1 != 0 then some ((Shr.mk [] [] (Pool.mk [] [] [] []) (Pool.mk [] [] [] []) (Pool.mk [] [] [] []) (Era.mk 0 []), 0, [], z.1.2.2.1, ()), ()) else some ((z.1.1, z.1.2.1, [], 0, ()), ()) else bif a.kind == 8 then (p3 ((s, t, a, ()), ())).bind fun z => bif z.1.2.2.1 != 0 then some ((Shr.mk [] [] (Pool.mk [] [] [] []) (Pool.mk [] [] [] []) (Pool.mk [] [] [] []) (Era.mk 0 []), 0, [], z.1.2.2.1, ()), ()) else some ((z.1.1, z.1.2.1, [], 0, ()), ()) else bif a.kind == 9 then (p3 ((s, t, a, ()), ())).bind fun z => bif z.1.2.2.1 != 0 then some ((Shr.mk [] [] (Pool.mk [] [] [] []) (Pool.mk [] [] [] []) (Pool.mk [] [] [] []) (Era.mk 0 []), 0, [], z.1.2.2.1, ()), ()) else some ((z.1.1, z.1.2.1, [], 0, ()), ()) else some ((Shr.mk [] [] (Pool.mk [] [] [] []) (Pool.mk [] [] [] []) (Pool.mk [] [] [] []) (Era.mk 0 []), 0, [], 1, ()), ())
noncomputable def askDoN : askDoE.T := askDoE.un (aGy shpChkN askWaiN askLatN askRecN askWrdN askTouN)
theorem aXo (p0 : shpChkE.T) (p1 : askWaiE.T) (p2 : askLatE.T) (p3 : askRecE.T) (p4 : askWrdE.T) (p5 : askTouE.T) (x) : askDoE.run [shpChkE.on p0, askWaiE.on p1, askLatE.on p2, askRecE.on p3, askWrdE.on p4, askTouE.on p5] [] [] x = askDoE.un (aGy p0 p1 p2 p3 p4 p5) x := by kernel_rfl
theorem askDo_ok : askDoE.Ok askDoN := Fe.k (by kernel_rfl) (shpChk_ok.k (askWai_ok.k (askLat_ok.k (askRec_ok.k (askWrd_ok.k (askTou_ok.k g0)))))) (aA (by kernel_rfl)) (aXo shpChkN askWaiN askLatN askRecN askWrdN askTouN)
theorem bF {n : Int} (h0 : -9223372036854775808 ≤ n) (h1 : n ≤ 9223372036854775807) : w64 n = n := by
 unfold w64
 rw [IntKind.wrap_i64]
 omega
theorem aEq (n : Int) (k : Nat) (hk : k < 63) : wX n (2 ^ k - 1 : Nat) = n % (2 ^ k : Nat) := by
 have hp : (2 : Nat) ^ k ≤ 2 ^ 62 := Nat.pow_le_pow_right (by decide) (by omega)
 have h1 : 0 < (2 : Nat) ^ k := Nat.two_pow_pos k
 have e1 : (((2 ^ k - 1 : Nat) : Int) % 18446744073709551616).toNat = 2 ^ k - 1 := by
  rw [Int.emod_eq_of_lt (by omega) (by omega)]
  omega
 unfold wX
 rw [e1, Nat.and_two_pow_sub_one_eq_mod]
 have hd : (2 ^ k : Nat) ∣ 18446744073709551616 := by
  rw [show (18446744073709551616 : Nat) = 2 ^ 64 by rfl]
  exact Nat.pow_dvd_pow 2 (by omega)
 have e2 : (((n % 18446744073709551616).toNat % 2 ^ k : Nat) : Int) = n % (2 ^ k : Nat) := by
  have h3 : 0 ≤ n % 18446744073709551616 := Int.emod_nonneg _ (by decide)
  rw [Int.natCast_emod, Int.toNat_of_nonneg h3]
  exact Int.emod_emod_of_dvd n (Int.natCast_dvd_natCast.2 hd)
 rw [e2]
 have h4 := Int.emod_nonneg n (b := ((2 ^ k : Nat) : Int)) (by omega)
 have h5 := Int.emod_lt_of_pos n (b := ((2 ^ k : Nat) : Int)) (by omega)
 exact bF (by omega) (by omega)
theorem bHt (n : Int) : wX n 1 = n % 2 := aEq n 1 (by decide)
theorem aQq (n : Int) : wX n 1023 = n % 1024 := aEq n 10 (by decide)
theorem bLg {n : Int} (h0 : 0 ≤ n) (h1 : n ≤ 9223372036854775806) (h2 : n % 2 = 0) : or64 n 1 = n + 1 := by
 obtain ⟨m, rfl⟩ : ∃ m : Nat, n = 2 * (m : Int) := ⟨(n / 2).toNat, by omega⟩
 unfold or64
 have e1 : ((2 * (m : Int)) % 18446744073709551616).toNat = 2 ^ 1 * m := by
  rw [Int.emod_eq_of_lt (by omega) (by omega)]
  omega
 have e2 : ((1 : Int) % 18446744073709551616).toNat = 1 := rfl
 rw [e1, e2, ← Nat.two_pow_add_eq_or_of_lt (by decide)]
 rw [bF] <;> omega
theorem bHu (n : Int) : aB n 10 = n / 1024 := by
 unfold aB
 rw [show (2 : Int) ^ min (Int.toNat 10) 64 = 1024 by decide, Int.fdiv_eq_ediv_of_nonneg _ (by decide)]
theorem bCt {n : Int} (h0 : 0 ≤ n) (h1 : n < 1099511627776) : aBh n 10 = n * 1024 := by
 unfold aBh
 rw [show (2 : Int) ^ min (Int.toNat 10) 64 = 1024 by decide, bF] <;> omega
theorem gZ {a b : Int} (h : ¬ a = b) : (a == b) = false := beq_eq_false_iff_ne.2 h
theorem oH {a b : Int} (h : a = b) : (a == b) = true := beq_iff_eq.2 h
theorem rT {a b : Int} (h : ¬ a = b) : (a != b) = true := bne_iff_ne.2 h
theorem rW {a b : Int} (h : a = b) : (a != b) = false := by rw [h]; exact bne_self_eq_false b
theorem bCu {X Y : Type} {B : X → Option (X ⊕ Y)} {st : Nat → X} {k : Nat} {y : Y} (h1 : ∀ i, i < k → B (st i) = some (.inl (st (i + 1)))) (h2 : B (st k) = some (.inr y)) : ∀ (m j : Nat), j ≤ k → k - j < m → cZ B m (st j) = some y
 | 0, j, hj, hm => by omega
 | m + 1, j, hj, hm => by
  simp only [cZ]
  by_cases h : j = k
  ·subst h
   rw [h2]
   rfl
  ·rw [h1 j (by omega)]
   exact bCu h1 h2 m (j + 1) (by omega) (by omega)
theorem vY {X Y : Type} {B : X → Option (X ⊕ Y)} (st : Nat → X) {k : Nat} {y : Y} (hk : k ≤ 100000000000000000) (h1 : ∀ i, i < k → B (st i) = some (.inl (st (i + 1)))) (h2 : B (st k) = some (.inr y)) : cZ B FU (st 0) = some y :=
 bCu h1 h2 FU 0 (by omega) (by unfold FU; omega)
def dA {α σ ε : Type} (f : σ → Nat → α → σ ⊕ ε) : Nat → List α → σ → σ ⊕ ε
 | _, [], s => .inl s
 | i, a :: l, s => match f s i a with
  | .inl s' => dA f (i + 1) l s'
  | .inr e => .inr e
theorem bCv {X Y α σ ε : Type} {B : X → Option (X ⊕ Y)} {f : σ → Nat → α → σ ⊕ ε} {l : List α} (st : Nat → σ → X) {yl : σ → Y} {yr : ε → Y} (I : Nat → σ → Prop) (hI : ∀ i s s' (hi : i < l.length), I i s → f s i l[i] = .inl s' → I (i + 1) s')
  (h1 : ∀ i s (hi : i < l.length), I i s → B (st i s) = some (aH (f s i l[i]) (fun s' => .inl (st (i + 1) s')) fun e => .inr (yr e))) (h2 : ∀ s, I l.length s → B (st l.length s) = some (.inr (yl s))) :
  ∀ (m i : Nat) (s : σ), i ≤ l.length → l.length - i < m → I i s → cZ B m (st i s) = some (aH (dA f i (l.drop i) s) yl yr)
 | 0, i, s, hi, hm, hs => by omega
 | m + 1, i, s, hi, hm, hs => by
  simp only [cZ]
  by_cases h : i = l.length
  ·subst h
   rw [h2 s hs]
   simp [dA, aH]
  ·have hlt : i < l.length := by omega
   rw [h1 i s hlt hs]
   have ed : l.drop i = l[i] :: l.drop (i + 1) := List.drop_eq_getElem_cons hlt
   rw [ed]
   simp only [dA]
   cases e : f s i l[i] with
   | inl s' =>
    simp only [Option.bind_some, aH]
    exact bCv st I hI h1 h2 m (i + 1) s' (by omega) (by omega) (hI i s s' hlt hs e)
   | inr e' => rfl
theorem lpL {X Y α σ ε : Type} {B : X → Option (X ⊕ Y)} (f : σ → Nat → α → σ ⊕ ε) {l : List α} (st : Nat → σ → X) {yl : σ → Y} {yr : ε → Y} (I : Nat → σ → Prop) {s : σ} (hl : l.length ≤ 100000000000000000) (hs : I 0 s) (hI : ∀ i s s' (hi : i < l.length), I i s → f s i l[i] = .inl s' → I (i + 1) s')
  (h1 : ∀ i s (hi : i < l.length), I i s → B (st i s) = some (aH (f s i l[i]) (fun s' => .inl (st (i + 1) s')) fun e => .inr (yr e))) (h2 : ∀ s, I l.length s → B (st l.length s) = some (.inr (yl s))) :
  cZ B FU (st 0 s) = some (aH (dA f 0 l s) yl yr) := by
 have := bCv st I hI h1 h2 FU 0 s (by omega) (by unfold FU; omega) hs
 simpa using this
theorem cV {e : EK} (xs : List e.T) (i : Nat) (h : i < xs.length) : rdE e xs (i : Int) = xs[i] := by
 simp [rdE, rd, h]
theorem aU {i n : Nat} (h : i < n) : inR (i : Int) n = true := by
 simp [inR]; omega
theorem gH {i n : Nat} (h : i < n) (hn : n ≤ 100000000000000000) : w64 ((i : Int) + 1) = ((i + 1 : Nat) : Int) := by
 rw [bF] <;> omega
def dQ (w : Int) : Bool := decide (0 ≤ w ∧ w ≤ 4611686018427387904)
def tC (w : Int) : Bool := dQ w && decide (w % 2 = 1)
def oI (w : Int) : Int × Bool := if dQ w && decide (w % 2 = 0) && decide (w ≠ 4611686018427387904) then (w + 1, true) else (w, false)
def fI (w : Int) : Int × Int := if dQ w then (if w % 2 = 1 then (w + 1, 0) else (0, 2)) else (0, 1)
theorem qO (w : Int) : latChkN ((w, ()), ()) = some ((bif dQ w then 0 else 1, ()), ()) := by
 show yI w = _
 unfold yI
 by_cases h1 : w < 0
 ·rw [decide_eq_true h1, show dQ w = false from decide_eq_false (by omega)]; rfl
 ·by_cases h2 : w > 4611686018427387904
  ·rw [decide_eq_false h1, decide_eq_true h2, show dQ w = false from decide_eq_false (by omega)]; rfl
  ·rw [decide_eq_false h1, decide_eq_false h2, show dQ w = true from decide_eq_true ⟨by omega, by omega⟩]; rfl
theorem rX (w : Int) : latHeldN ((w, ()), ()) = some ((tC w, ()), ()) := by
 show sX latChkN w = _
 unfold sX tC
 rw [qO]
 cases dQ w
 ·rfl
 ·simp only [Option.bind_some, cond_true, Bool.true_and, beq_self_eq_true, bHt]
  have : (w % 2 != 0) = decide (w % 2 = 1) := by
   rcases Int.emod_two_eq w with h | h <;> simp [h]
  rw [this]
theorem aXp (w : Int) : latTryN ((w, ()), ()) = some (((oI w).1, (oI w).2, ()), ()) := by
 show yJ latChkN latHeldN w = _
 unfold yJ oI
 rw [qO, rX, tC]
 cases h : dQ w
 ·rfl
 ·simp only [Option.bind_some, cond_true, Bool.true_and, bne_self_eq_false, cond_false]
  rcases Int.emod_two_eq w with h2 | h2
  ·by_cases h3 : w = 4611686018427387904
   ·simp [h3]
   ·have h4 : 0 ≤ w ∧ w ≤ 4611686018427387904 := by simpa [dQ] using h
    have h5 : (w == 4611686018427387904) = false := beq_false_of_ne h3
    simp [h2, h3, h5, bLg (n := w) (by omega) (by omega) h2]
  ·simp [h2]
theorem aQr (w : Int) : latFreeN ((w, ()), ()) = some (((fI w).1, (fI w).2, ()), ()) := by
 show sY latChkN latHeldN w = _
 unfold sY fI
 rw [qO, rX, tC]
 cases h : dQ w
 ·rfl
 ·simp only [Option.bind_some, cond_true, Bool.true_and, bne_self_eq_false, cond_false]
  have h4 : 0 ≤ w ∧ w ≤ 4611686018427387904 := by simpa [dQ] using h
  rcases Int.emod_two_eq w with h2 | h2
  ·simp [h2]
  ·simp [h2, bF (n := w + 1) (by omega) (by omega)]
def aAa (slot gen : Int) : Int × Int := if 0 ≤ slot ∧ slot < 1024 ∧ 0 ≤ gen ∧ gen < 1099511627776 then (gen * 1024 + slot + 1, 0) else (0, 1)
def aR (ref : Int) : Int × Int × Int := if 1 ≤ ref ∧ w64 (ref - 1) / 1024 < 1099511627776 then (w64 (ref - 1) % 1024, w64 (ref - 1) / 1024, 0) else (0, 0, 1)
theorem aQs (s g : Int) : tagPackN ((s, g, ()), ()) = some (((aAa s g).1, (aAa s g).2, ()), ()) := by
 show sW s g = _
 unfold sW aAa
 by_cases h1 : s < 0
 ·rw [if_neg (by omega)]; simp [h1]
 by_cases h2 : s ≥ 1024
 ·rw [if_neg (by omega)]; simp [h1, h2]
 by_cases h3 : g < 0
 ·rw [if_neg (by omega)]; simp [h1, h2, h3]
 by_cases h4 : g ≥ 1099511627776
 ·rw [if_neg (by omega)]; simp [h1, h2, h3, h4]
 rw [if_pos (by omega), bCt (by omega) (by omega), bF (n := g * 1024 + s) (by omega) (by omega), bF (by omega) (by omega)]
 simp [h1, h2, h3, h4]
theorem qP (r : Int) : tagUnpN ((r, ()), ()) = some (((aR r).1, (aR r).2.1, (aR r).2.2, ()), ()) := by
 show yH r = _
 unfold yH aR
 rw [bHu, aQq]
 by_cases h1 : r < 1
 ·rw [if_neg (by omega)]; simp [h1]
 by_cases h2 : w64 (r - 1) / 1024 ≥ 1099511627776
 ·rw [if_neg (by omega)]; simp [h1, h2]
 rw [if_pos (by omega)]
 simp [h1, h2]
theorem aCg {r : Int} (h : (aR r).2.2 = 0) : 0 ≤ (aR r).1 ∧ (aR r).1 < 1024 ∧ (aR r).2.1 < 1099511627776 := by
 unfold aR at h ⊢
 split at h
 ·rename_i h1
  rw [if_pos h1]
  dsimp only
  omega
 ·cases h
def cM (c : Cfg) : Bool := decide (1 ≤ c.nodes ∧ 1 ≤ c.edges ∧ 1 ≤ c.props ∧ 1 ≤ c.ids ∧ 1 ≤ c.edgeIds ∧ c.nodes ≤ 64 ∧ c.edges ≤ 64 ∧ c.props ≤ 64 ∧ c.ids ≤ 64 ∧ c.edgeIds ≤ 64)
theorem pV {c : Cfg} (h : cM c = true) : 1 ≤ c.nodes ∧ 1 ≤ c.edges ∧ 1 ≤ c.props ∧ 1 ≤ c.ids ∧ 1 ≤ c.edgeIds ∧ c.nodes ≤ 64 ∧ c.edges ≤ 64 ∧ c.props ≤ 64 ∧ c.ids ≤ 64 ∧ c.edgeIds ≤ 64 := of_decide_eq_true h
theorem nQ (c : Cfg) : plcChkN ((c, ()), ()) = some ((bif cM c then 0 else 1, ()), ()) := by
 show (bif decide (min (min (min (min c.nodes c.edges) c.props) c.ids) c.edgeIds < 1) then some ((1, ()), ()) else bif decide (max (max c.nodes c.edges) c.props > 64) then some ((1, ()), ()) else bif decide (max c.ids c.edgeIds > 64) then some ((1, ()), ()) else some ((0, ()), ())) = _
 have k1 : min (min (min (min c.nodes c.edges) c.props) c.ids) c.edgeIds < 1 ↔ ¬ (1 ≤ c.nodes ∧ 1 ≤ c.edges ∧ 1 ≤ c.props ∧ 1 ≤ c.ids ∧ 1 ≤ c.edgeIds) := by
  rw [← Int.not_le]
  simp only [Int.le_min, and_assoc]
 have k2 : max (max c.nodes c.edges) c.props > 64 ↔ ¬ (c.nodes ≤ 64 ∧ c.edges ≤ 64 ∧ c.props ≤ 64) := by
  show 64 < _ ↔ _
  rw [← Int.not_le]
  simp only [Int.max_le, and_assoc]
 have k3 : max c.ids c.edgeIds > 64 ↔ ¬ (c.ids ≤ 64 ∧ c.edgeIds ≤ 64) := by
  show 64 < _ ↔ _
  rw [← Int.not_le]
  simp only [Int.max_le]
 by_cases h1 : min (min (min (min c.nodes c.edges) c.props) c.ids) c.edgeIds < 1
 ·rw [decide_eq_true h1, show cM c = false from decide_eq_false (fun h => k1.1 h1 ⟨h.1, h.2.1, h.2.2.1, h.2.2.2.1, h.2.2.2.2.1⟩)]; rfl
 by_cases h2 : max (max c.nodes c.edges) c.props > 64
 ·rw [decide_eq_false h1, decide_eq_true h2, show cM c = false from decide_eq_false (fun h => k2.1 h2 ⟨h.2.2.2.2.2.1, h.2.2.2.2.2.2.1, h.2.2.2.2.2.2.2.1⟩)]; rfl
 by_cases h3 : max c.ids c.edgeIds > 64
 ·rw [decide_eq_false h1, decide_eq_false h2, decide_eq_true h3, show cM c = false from decide_eq_false (fun h => k3.1 h3 h.2.2.2.2.2.2.2.2)]; rfl
 rw [decide_eq_false h1, decide_eq_false h2, decide_eq_false h3, show cM c = true from decide_eq_true (by rw [k1, Decidable.not_not] at h1; rw [k2, Decidable.not_not] at h2; rw [k3, Decidable.not_not] at h3; exact ⟨h1.1, h1.2.1, h1.2.2.1, h1.2.2.2.1, h1.2.2.2.2, h2.1, h2.2.1, h2.2.2, h3⟩)]
 rfl
def cN (c : Cfg) : Int := bif cM c then 2 + c.ids + c.edgeIds + c.nodes * 4 + c.edges * 5 + c.props * 3 else 0
def mC (c : Cfg) (which : Int) : Int × Int × Int := if which = 1 then (c.nodes, 4, 2 + c.ids + c.edgeIds) else if which = 2 then (c.edges, 5, 2 + c.ids + c.edgeIds + c.nodes * 4) else if which = 3 then (c.props, 3, 2 + c.ids + c.edgeIds + c.nodes * 4 + c.edges * 5) else (0, 0, 0)
theorem aKg {c : Cfg} (h : cM c = true) : plcKinN ((c, ()), ()) = some ((⟨⟨0, 0, 0⟩, ⟨c.nodes, 4, 2 + c.ids + c.edgeIds⟩, ⟨c.edges, 5, 2 + c.ids + c.edgeIds + c.nodes * 4⟩, ⟨c.props, 3, 2 + c.ids + c.edgeIds + c.nodes * 4 + c.edges * 5⟩, ⟨0, 0, cN c⟩⟩, ()), ()) := by
 have h' := pV h
 show yL c = _
 unfold yL cN
 rw [h, cond_true, bF (n := 2 + c.ids) (by omega) (by omega), bF (n := 2 + c.ids + c.edgeIds) (by omega) (by omega), bF (n := c.nodes * 4) (by omega) (by omega), bF (n := c.edges * 5) (by omega) (by omega), bF (n := c.props * 3) (by omega) (by omega),
  bF (n := 2 + c.ids + c.edgeIds + c.nodes * 4) (by omega) (by omega), bF (n := 2 + c.ids + c.edgeIds + c.nodes * 4 + c.edges * 5) (by omega) (by omega), bF (n := 2 + c.ids + c.edgeIds + c.nodes * 4 + c.edges * 5 + c.props * 3) (by omega) (by omega)]
theorem vZ (c : Cfg) : plcSizN ((c, ()), ()) = some ((cN c, ()), ()) := by
 show yM plcChkN plcKinN c = _
 unfold yM
 rw [nQ]
 cases h : cM c
 ·simp [cN, h]
 ·simp [aKg h]
theorem aCh (c : Cfg) : 0 ≤ cN c ∧ cN c ≤ 1000 := by
 unfold cN
 cases h : cM c
 ·simp
 ·have := pV h
  simp only [cond_true]
  omega
def aGz (c : Cfg) (which slot field : Int) : Int × Int := if cM c ∧ 1 ≤ which ∧ which ≤ 3 ∧ 0 ≤ slot ∧ slot < (mC c which).1 ∧ 0 ≤ field ∧ field < (mC c which).2.1 then ((mC c which).2.2 + slot * (mC c which).2.1 + field, 0) else (0, 1)
theorem bLh {c : Cfg} (h : cM c = true) {w : Int} : 0 ≤ (mC c w).1 ∧ (mC c w).1 ≤ 64 ∧ 0 ≤ (mC c w).2.1 ∧ (mC c w).2.1 ≤ 5 ∧ 0 ≤ (mC c w).2.2 ∧ (mC c w).2.2 ≤ 1000 := by
 have := pV h
 unfold mC
 split
 ·dsimp only; omega
 split
 ·dsimp only; omega
 split
 ·dsimp only; omega
 ·decide
theorem rd5 (a b c d e w : Int) (h1 : 1 ≤ w) (h2 : w ≤ 3) : rdE EK.int [a, b, c, d, e] w = if w = 1 then b else if w = 2 then c else d := by
 have : w = 1 ∨ w = 2 ∨ w = 3 := by omega
 rcases this with rfl | rfl | rfl <;> rfl
theorem aXq (c : Cfg) (w s f : Int) : plcFldN ((c, w, s, f, ()), ()) = some (((aGz c w s f).1, (aGz c w s f).2, ()), ()) := by
 show yO plcChkN plcKinN c w s f = _
 unfold yO aGz
 rw [nQ]
 cases h : cM c
 ·simp
 have hc := pV h
 simp only [Option.bind_some, cond_true, bne_self_eq_false, cond_false, aKg h]
 by_cases h1 : w < 1
 ·rw [if_neg (by omega)]; simp [h1]
 by_cases h2 : w > 3
 ·rw [if_neg (by omega)]; simp [h1, h2]
 have hw1 : 1 ≤ w := by omega
 have hw2 : w ≤ 3 := by omega
 have e1 : (if w = 1 then c.nodes else if w = 2 then c.edges else c.props) = (mC c w).1 := by
  have : w = 1 ∨ w = 2 ∨ w = 3 := by omega
  rcases this with rfl | rfl | rfl <;> rfl
 have e2 : (if w = 1 then 4 else if w = 2 then 5 else 3) = (mC c w).2.1 := by
  have : w = 1 ∨ w = 2 ∨ w = 3 := by omega
  rcases this with rfl | rfl | rfl <;> rfl
 have e3 : (if w = 1 then 2 + c.ids + c.edgeIds else if w = 2 then 2 + c.ids + c.edgeIds + c.nodes * 4 else 2 + c.ids + c.edgeIds + c.nodes * 4 + c.edges * 5) = (mC c w).2.2 := by
  have : w = 1 ∨ w = 2 ∨ w = 3 := by omega
  rcases this with rfl | rfl | rfl <;> rfl
 simp only [rd5 _ _ _ _ _ w hw1 hw2, e1, e2, e3]
 have hk := bLh h (w := w)
 have hi : inR w 5 = true := by simp [inR]; omega
 rw [decide_eq_false h1, decide_eq_false h2, hi]
 simp only [cond_false, cond_true]
 by_cases h3 : s < 0
 ·rw [if_neg (by omega)]; simp [h3]
 by_cases h4 : s ≥ (mC c w).1
 ·rw [if_neg (by omega)]; simp [h3, h4]
 by_cases h5 : f < 0
 ·rw [if_neg (by omega)]; simp [h3, h4, h5]
 by_cases h6 : f ≥ (mC c w).2.1
 ·rw [if_neg (by omega)]; simp [h3, h4, h5, h6]
 rw [if_pos (by simp; omega)]
 have hm : 0 ≤ s * (mC c w).2.1 ∧ s * (mC c w).2.1 ≤ 64 * 5 := ⟨Int.mul_nonneg (by omega) (by omega), Int.mul_le_mul (by omega) (by omega) (by omega) (by omega)⟩
 rw [bF (n := s * (mC c w).2.1) (by omega) (by omega), bF (n := (mC c w).2.2 + s * (mC c w).2.1) (by omega) (by omega), bF (n := (mC c w).2.2 + s * (mC c w).2.1 + f) (by omega) (by omega)]
 simp [h3, h4, h5, h6]
end Go.Ax.Cd
