/- Merged. -/
import Derived.Test.YthcfkplfmjcmoaaGreatDoorQ30
import Derived.Test.YthcfkplfmjcmoaaGreatDoorQ29
namespace Go.Ax.Cd
open Go.Proofs
set_option linter.unusedVariables false
set_option maxRecDepth 100000
abbrev aFk : List OSh := [.box [.e (.st .cfg), .e (.sl .int), .own 3, .any], .any, .any, .arr (.st .acc), .any, .any, .any]
abbrev aMj : List OSh := [.box [.e (.st .cfg), .e (.sl .int), .own 3, .sln .int], .box [.ptr 4 3], .box [.e (.st .sid)], .arr (.st .acc), .box [.e .int, .e .int, .e (.sl (.st .pr)), .own 5, .own 6], .arr (.st .en), .arr (.st .en)]
abbrev aMk : List OSh := [.box [.e (.st .cfg), .e (.sl .int), .own 3, .sln .int], .box [.ptr 4 4], .box [.e (.st .sid)], .arr (.st .acc), .box [.e .int, .e .int, .e (.sl (.st .pr)), .own 5, .own 6], .arr (.st .en), .arr (.st .en)]
noncomputable abbrev endsCoE : Ge := ⟨261, Tryz.f261, [rc, .s (.ptr 1 0), .s (.ptr 2 0)], aMj, [], aMj, aFk, List En, fun x a d => ((), ((x.2.1.1, x.2.1.2.1, (), x.2.1.2.2.2.1, ()), ((), ()), (x.2.2.2.1.1, ()), d, (x.2.2.2.2.2.1.1, x.2.2.2.2.2.1.2.1, x.2.2.2.2.2.1.2.2.1, (), (), ()), a, x.2.2.2.2.2.2.2.1, ())), fun o d => ((o.1.1, o.1.2.1, (), (), ()), (), (), d, (), (), (), ()), fun o => o.1.2.1, fun o => o.2.2.2.1⟩
def aHr (p0 : loadE.T) (w r : Int) (c : Cfg) (got held : List Int) (sd : Sid) (er id : Int) (ps : List Pr) (u1 u2 : List En) : F (List En) :=
 (p0 w r 0 c got held).bind fun x0 =>
 (p0 w r sd.other c got held).bind fun x1 =>
 .ite (decide (u1.length + [En.mk x0 x1].length ≤ 1000000000)) (.ret (u1 ++ [En.mk x0 x1]))
 (.tr .bot)
def endsCoF : endsCoE.T := aHr loadF
theorem aSe (p0 : loadE.T) (x) : endsCoE.run [loadE.on p0] [] [] x = endsCoE.go (aHr p0) x some := by kernel_rfl
theorem endsCo_ok : endsCoE.Ok endsCoF := Ge.k (by kernel_rfl) (load_ok.k g0) (aA (by kernel_rfl)) (aSe loadF)
noncomputable abbrev eachOL0E : He := ⟨7, Tryz.f260, 0, [3, 6, 8], [.clo 261 [.ptr 1 0, .ptr 2 0], .s (.ptr 7 0), .s (.ptr 8 0)], [.box [.e (.st .cfg), .e (.sl .int), .own 3, .sln .int], .box [.ptr 4 3], .box [.e (.st .sid)], .arr (.st .acc), .box [.e .int, .e .int, .e (.sl (.st .pr)), .own 5, .own 6], .arr (.st .en), .arr (.st .en), .box [.e (.st .sid)], .box [.ptr 0 0, .e .int, .e .int]], ((Fin.one 7 Tryz.f260.ntmps (.exit 0) [] [] aMj).or (Fin.pan 7 188 (.agg []) aFk)), Cfg → List Int → List Int → Sid → Int → Int → List Pr → List En → Sid → Int → List En → Int → F (List En), List En, fun t x => t x.2.1.1 x.2.1.2.1 x.2.1.2.2.2.1 x.2.2.2.1.1 x.2.2.2.2.2.1.1 x.2.2.2.2.2.1.2.1 x.2.2.2.2.2.1.2.2.1 x.2.2.2.2.2.2.2.1 x.2.2.2.2.2.2.2.2.1.1 x.2.2.2.2.2.2.2.2.2.1.2.1 x.2.2.2.2.2.2.1 x.2.2.2.2.2.2.2.2.2.1.2.2.1, fun x a d K => K (Sum.inl (((), ((x.2.1.1, x.2.1.2.1, (), x.2.1.2.2.2.1, ()), ((), ()), (x.2.2.2.1.1, ()), d, (x.2.2.2.2.2.1.1, x.2.2.2.2.2.1.2.1, x.2.2.2.2.2.1.2.2.1, (), (), ()), a, x.2.2.2.2.2.2.2.1, ())))), fun x d => Sum.inr ((((), ()), ((x.2.1.1, x.2.1.2.1, (), (), ()), (), (), d, (), (), (), ()))), fun x => x.2.1.2.1, fun x => x.2.2.2.2.1, fun _ _ _ _ => rfl⟩
def aMl (x : eachOL0E.X) (s : List En × Int) (d : List Acc) : eachOL0E.X := ((((), (), ()), (), (), ()), ((x.2.1.1, x.2.1.2.1, (), x.2.1.2.2.2.1, ()), ((), ()), (x.2.2.2.1.1, ()), d, (x.2.2.2.2.2.1.1, x.2.2.2.2.2.1.2.1, x.2.2.2.2.2.1.2.2.1, (), (), ()), s.1, x.2.2.2.2.2.2.2.1, (x.2.2.2.2.2.2.2.2.1.1, ()), ((), x.2.2.2.2.2.2.2.2.2.1.2.1, s.2, ()), ()))
def uQ (p0 : nextE.T) (p1 : endsCoE.T) (c : Cfg) (got held : List Int) (sd : Sid) (er id : Int) (ps : List Pr) (u2 : List En) (v18 : Sid) (v20 : Int) (st : List En × Int) : F ((List En × Int) ⊕ (List En)) :=
 let u1 := st.1; let v21 := st.2; 
 .ite (!v21 == 0) ((p1 v20 v21 c got held sd er id ps u1 u2).bind fun x1 =>
 (p0 v20 v21 v18.link c got held).bind fun x2 =>
 .ret (Sum.inl (x1, x2)))
 (.ret (Sum.inr u1))
abbrev xR (c : Cfg) (got held : List Int) (sd : Sid) (er id : Int) (ps : List Pr) (u2 : List En) (v18 : Sid) (v20 : Int) (st : List En × Int) := (uQ nextF endsCoF c got held sd er id ps u2 v18 v20 st).tree
def eachOL0F : eachOL0E.LT := fun c got held sd er id ps u2 v18 v20 s0 s1 => .tr (T.loop (xR c got held sd er id ps u2 v18 v20) (got.length + 10) (s0, s1))
theorem aMm (p0 : nextE.T) (p1 : endsCoE.T) (x) : eachOL0E.run [loadE.on loadF, nextE.on p0, edgeE.on edgeF, noneE.on noneF, endsCoE.on p1] [] [] x = eachOL0E.go1 aMl (uQ p0 p1 x.2.1.1 x.2.1.2.1 x.2.1.2.2.2.1 x.2.2.2.1.1 x.2.2.2.2.2.1.1 x.2.2.2.2.2.1.2.1 x.2.2.2.2.2.1.2.2.1 x.2.2.2.2.2.2.2.1 x.2.2.2.2.2.2.2.2.1.1 x.2.2.2.2.2.2.2.2.2.1.2.1 (x.2.2.2.2.2.2.1, x.2.2.2.2.2.2.2.2.2.1.2.2.1)) x := by kernel_rfl
theorem aSf : eachOL0E.Ok eachOL0F := He.k aMl (fun x => (x.2.2.2.2.2.2.1, x.2.2.2.2.2.2.2.2.2.1.2.2.1)) (fun x s => uQ nextF endsCoF x.2.1.1 x.2.1.2.1 x.2.1.2.2.2.1 x.2.2.2.1.1 x.2.2.2.2.2.1.1 x.2.2.2.2.2.1.2.1 x.2.2.2.2.2.1.2.2.1 x.2.2.2.2.2.2.2.1 x.2.2.2.2.2.2.2.2.1.1 x.2.2.2.2.2.2.2.2.2.1.2.1 s) (fo f1 fp) (load_ok.k (next_ok.k (edge_ok.k (none_ok.k (endsCo_ok.k g0))))) (aA (by kernel_rfl)) (aMm nextF endsCoF) (fun _ => rfl) (fun _ => rfl) (fun _ _ _ => rfl) (fun _ _ _ => ⟨rfl, rfl⟩)
noncomputable abbrev eachOE : Ge := ⟨260, Tryz.f260, [pm, rc, .s (.e (.st .sid)), .clo 261 [.ptr 1 0, .ptr 2 0]], aMj, [], aMj, aFk, List En, fun x a d => ((), ((x.2.1.1, x.2.1.2.1, (), x.2.1.2.2.2.1, ()), ((), ()), (x.2.2.2.1.1, ()), d, (x.2.2.2.2.2.1.1, x.2.2.2.2.2.1.2.1, x.2.2.2.2.2.1.2.2.1, (), (), ()), a, x.2.2.2.2.2.2.2.1, ())), fun o d => ((o.1.1, o.1.2.1, (), (), ()), (), (), d, (), (), (), ()), fun o => o.1.2.1, fun o => o.2.2.2.1⟩
def bFe (p0 : loadE.T) (p1 : nextE.T) (p2 : endsCoE.T) (p3 : eachOL0E.LT) (w r : Int) (s : Sid) (c : Cfg) (got held : List Int) (sd : Sid) (er id : Int) (ps : List Pr) (u1 u2 : List En) : F (List En) :=
 (p0 w r s.head c got held).bind fun x0 =>
 (p3 c got held sd er id ps u2 s 2 u1 x0).bind fun x2 =>
 .ret x2
def eachOF : eachOE.T := bFe loadF nextF endsCoF eachOL0F
abbrev aVn (w r : Int) (s : Sid) (c : Cfg) (got held : List Int) (sd : Sid) (er id : Int) (ps : List Pr) (u1 u2 : List En) := (eachOF w r s c got held sd er id ps u1 u2).tree
theorem aZt (p0 : loadE.T) (p1 : nextE.T) (p2 : endsCoE.T) (p3 : eachOL0E.LT) (x) : eachOE.run [loadE.on p0, nextE.on p1, edgeE.on edgeF, noneE.on noneF, endsCoE.on p2] [(2, eachOL0E.on p3)] [] x = eachOE.go (bFe p0 p1 p2 p3) x some := by kernel_rfl
theorem eachO_ok : eachOE.Ok eachOF := Ge.k (by kernel_rfl) (load_ok.k (next_ok.k (edge_ok.k (none_ok.k (endsCo_ok.k g0))))) (bD (by kernel_rfl) (lhc (by kernel_rfl) aSf rfl lsn)) (aZt loadF nextF endsCoF eachOL0F)
noncomputable abbrev endsCiE : Ge := ⟨261, Tryz.f261, [rc, .s (.ptr 1 0), .s (.ptr 2 0)], aMk, [], aMk, aFk, List En, fun x a d => ((), ((x.2.1.1, x.2.1.2.1, (), x.2.1.2.2.2.1, ()), ((), ()), (x.2.2.2.1.1, ()), d, (x.2.2.2.2.2.1.1, x.2.2.2.2.2.1.2.1, x.2.2.2.2.2.1.2.2.1, (), (), ()), x.2.2.2.2.2.2.1, a, ())), fun o d => ((o.1.1, o.1.2.1, (), (), ()), (), (), d, (), (), (), ()), fun o => o.1.2.1, fun o => o.2.2.2.1⟩
def aHs (p0 : loadE.T) (w r : Int) (c : Cfg) (got held : List Int) (sd : Sid) (er id : Int) (ps : List Pr) (u1 u2 : List En) : F (List En) :=
 (p0 w r 0 c got held).bind fun x0 =>
 (p0 w r sd.other c got held).bind fun x1 =>
 .ite (decide (u2.length + [En.mk x0 x1].length ≤ 1000000000)) (.ret (u2 ++ [En.mk x0 x1]))
 (.tr .bot)
def endsCiF : endsCiE.T := aHs loadF
theorem aSg (p0 : loadE.T) (x) : endsCiE.run [loadE.on p0] [] [] x = endsCiE.go (aHs p0) x some := by kernel_rfl
theorem endsCi_ok : endsCiE.Ok endsCiF := Ge.k (by kernel_rfl) (load_ok.k g0) (aA (by kernel_rfl)) (aSg loadF)
noncomputable abbrev eachIL0E : He := ⟨7, Tryz.f260, 0, [3, 6, 8], [.clo 261 [.ptr 1 0, .ptr 2 0], .s (.ptr 7 0), .s (.ptr 8 0)], [.box [.e (.st .cfg), .e (.sl .int), .own 3, .sln .int], .box [.ptr 4 4], .box [.e (.st .sid)], .arr (.st .acc), .box [.e .int, .e .int, .e (.sl (.st .pr)), .own 5, .own 6], .arr (.st .en), .arr (.st .en), .box [.e (.st .sid)], .box [.ptr 0 0, .e .int, .e .int]], ((Fin.one 7 Tryz.f260.ntmps (.exit 0) [] [] aMk).or (Fin.pan 7 188 (.agg []) aFk)), Cfg → List Int → List Int → Sid → Int → Int → List Pr → List En → Sid → Int → List En → Int → F (List En), List En, fun t x => t x.2.1.1 x.2.1.2.1 x.2.1.2.2.2.1 x.2.2.2.1.1 x.2.2.2.2.2.1.1 x.2.2.2.2.2.1.2.1 x.2.2.2.2.2.1.2.2.1 x.2.2.2.2.2.2.1 x.2.2.2.2.2.2.2.2.1.1 x.2.2.2.2.2.2.2.2.2.1.2.1 x.2.2.2.2.2.2.2.1 x.2.2.2.2.2.2.2.2.2.1.2.2.1, fun x a d K => K (Sum.inl (((), ((x.2.1.1, x.2.1.2.1, (), x.2.1.2.2.2.1, ()), ((), ()), (x.2.2.2.1.1, ()), d, (x.2.2.2.2.2.1.1, x.2.2.2.2.2.1.2.1, x.2.2.2.2.2.1.2.2.1, (), (), ()), x.2.2.2.2.2.2.1, a, ())))), fun x d => Sum.inr ((((), ()), ((x.2.1.1, x.2.1.2.1, (), (), ()), (), (), d, (), (), (), ()))), fun x => x.2.1.2.1, fun x => x.2.2.2.2.1, fun _ _ _ _ => rfl⟩
def aMn (x : eachIL0E.X) (s : List En × Int) (d : List Acc) : eachIL0E.X := ((((), (), ()), (), (), ()), ((x.2.1.1, x.2.1.2.1, (), x.2.1.2.2.2.1, ()), ((), ()), (x.2.2.2.1.1, ()), d, (x.2.2.2.2.2.1.1, x.2.2.2.2.2.1.2.1, x.2.2.2.2.2.1.2.2.1, (), (), ()), x.2.2.2.2.2.2.1, s.1, (x.2.2.2.2.2.2.2.2.1.1, ()), ((), x.2.2.2.2.2.2.2.2.2.1.2.1, s.2, ()), ()))
def uR (p0 : nextE.T) (p1 : endsCiE.T) (c : Cfg) (got held : List Int) (sd : Sid) (er id : Int) (ps : List Pr) (u1 : List En) (v18 : Sid) (v20 : Int) (st : List En × Int) : F ((List En × Int) ⊕ (List En)) :=
 let u2 := st.1; let v21 := st.2; 
 .ite (!v21 == 0) ((p1 v20 v21 c got held sd er id ps u1 u2).bind fun x1 =>
 (p0 v20 v21 v18.link c got held).bind fun x2 =>
 .ret (Sum.inl (x1, x2)))
 (.ret (Sum.inr u2))
abbrev xS (c : Cfg) (got held : List Int) (sd : Sid) (er id : Int) (ps : List Pr) (u1 : List En) (v18 : Sid) (v20 : Int) (st : List En × Int) := (uR nextF endsCiF c got held sd er id ps u1 v18 v20 st).tree
def eachIL0F : eachIL0E.LT := fun c got held sd er id ps u1 v18 v20 s0 s1 => .tr (T.loop (xS c got held sd er id ps u1 v18 v20) (got.length + 10) (s0, s1))
theorem aMo (p0 : nextE.T) (p1 : endsCiE.T) (x) : eachIL0E.run [loadE.on loadF, nextE.on p0, edgeE.on edgeF, noneE.on noneF, endsCiE.on p1] [] [] x = eachIL0E.go1 aMn (uR p0 p1 x.2.1.1 x.2.1.2.1 x.2.1.2.2.2.1 x.2.2.2.1.1 x.2.2.2.2.2.1.1 x.2.2.2.2.2.1.2.1 x.2.2.2.2.2.1.2.2.1 x.2.2.2.2.2.2.1 x.2.2.2.2.2.2.2.2.1.1 x.2.2.2.2.2.2.2.2.2.1.2.1 (x.2.2.2.2.2.2.2.1, x.2.2.2.2.2.2.2.2.2.1.2.2.1)) x := by kernel_rfl
theorem aSh : eachIL0E.Ok eachIL0F := He.k aMn (fun x => (x.2.2.2.2.2.2.2.1, x.2.2.2.2.2.2.2.2.2.1.2.2.1)) (fun x s => uR nextF endsCiF x.2.1.1 x.2.1.2.1 x.2.1.2.2.2.1 x.2.2.2.1.1 x.2.2.2.2.2.1.1 x.2.2.2.2.2.1.2.1 x.2.2.2.2.2.1.2.2.1 x.2.2.2.2.2.2.1 x.2.2.2.2.2.2.2.2.1.1 x.2.2.2.2.2.2.2.2.2.1.2.1 s) (fo f1 fp) (load_ok.k (next_ok.k (edge_ok.k (none_ok.k (endsCi_ok.k g0))))) (aA (by kernel_rfl)) (aMo nextF endsCiF) (fun _ => rfl) (fun _ => rfl) (fun _ _ _ => rfl) (fun _ _ _ => ⟨rfl, rfl⟩)
noncomputable abbrev eachIE : Ge := ⟨260, Tryz.f260, [pm, rc, .s (.e (.st .sid)), .clo 261 [.ptr 1 0, .ptr 2 0]], aMk, [], aMk, aFk, List En, fun x a d => ((), ((x.2.1.1, x.2.1.2.1, (), x.2.1.2.2.2.1, ()), ((), ()), (x.2.2.2.1.1, ()), d, (x.2.2.2.2.2.1.1, x.2.2.2.2.2.1.2.1, x.2.2.2.2.2.1.2.2.1, (), (), ()), x.2.2.2.2.2.2.1, a, ())), fun o d => ((o.1.1, o.1.2.1, (), (), ()), (), (), d, (), (), (), ()), fun o => o.1.2.1, fun o => o.2.2.2.1⟩
def bFf (p0 : loadE.T) (p1 : nextE.T) (p2 : endsCiE.T) (p3 : eachIL0E.LT) (w r : Int) (s : Sid) (c : Cfg) (got held : List Int) (sd : Sid) (er id : Int) (ps : List Pr) (u1 u2 : List En) : F (List En) :=
 (p0 w r s.head c got held).bind fun x0 =>
 (p3 c got held sd er id ps u1 s 2 u2 x0).bind fun x2 =>
 .ret x2
def eachIF : eachIE.T := bFf loadF nextF endsCiF eachIL0F
abbrev aVo (w r : Int) (s : Sid) (c : Cfg) (got held : List Int) (sd : Sid) (er id : Int) (ps : List Pr) (u1 u2 : List En) := (eachIF w r s c got held sd er id ps u1 u2).tree
theorem aZu (p0 : loadE.T) (p1 : nextE.T) (p2 : endsCiE.T) (p3 : eachIL0E.LT) (x) : eachIE.run [loadE.on p0, nextE.on p1, edgeE.on edgeF, noneE.on noneF, endsCiE.on p2] [(2, eachIL0E.on p3)] [] x = eachIE.go (bFf p0 p1 p2 p3) x some := by kernel_rfl
theorem eachI_ok : eachIE.Ok eachIF := Ge.k (by kernel_rfl) (load_ok.k (next_ok.k (edge_ok.k (none_ok.k (endsCi_ok.k g0))))) (bD (by kernel_rfl) (lhc (by kernel_rfl) aSh rfl lsn)) (aZu loadF nextF endsCiF eachIL0F)
noncomputable abbrev endsE : Ge := Ge.m 194 Tryz.f194 [pm, rc] [.s (.e (.st .res))] (Res) fun x a => (a, ())
def bKm (p0 : eachOE.T) (p1 : eachIE.T) (w r : Int) (c : Cfg) (got held : List Int) : F (Res) :=
 (p0 w r (Sid.mk 1 3 1 2) c got held (Sid.mk 1 3 1 2) 0 0 [] [] []).bind fun x0 =>
 (F.gd (pI x0.length) ()).bind fun _ =>
 (p1 w r (Sid.mk 2 4 2 1) c got held (Sid.mk 2 4 2 1) 0 0 [] (oW x0) []).bind fun x2 =>
 (F.gd (pI x2.length) ()).bind fun _ =>
 .ret (Res.mk 0 0 [] (oW x0) (oW x2))
def endsF : endsE.T := bKm eachOF eachIF
abbrev bFg (w r : Int) (c : Cfg) (got held : List Int) := (endsF w r c got held).tree
theorem bFh (p0 : eachOE.T) (p1 : eachIE.T) (x) : endsE.run [eachOE.on p0, eachIE.on p1, stabEnE.on] [] [(0, [(4, some 3, (.st .en)), (4, some 4, (.st .en))])] x = endsE.go (bKm p0 p1) x some := by kernel_rfl
theorem ends_ok : endsE.Ok endsF := Ge.k (by kernel_rfl) (eachO_ok.k (eachI_ok.k (stabEnU_ok.k g0))) (bD (by kernel_rfl) (lsz (f := Tryz.f194) (i := 0) (by kernel_rfl) lsn)) (bFh eachOF eachIF)
abbrev bKn : List OSh := [.box [.e (.st .cfg), .e (.sl .int), .own 3, .sln .int], .box [.e .int], .box [.ptr 0 0], .arr (.st .acc), .box [.ptr 0 0, .e .int, .e .int]]
abbrev aFl : List OSh := [.box [.e (.st .cfg), .e (.sl .int), .own 3, .any], .any, .any, .arr (.st .acc)]
abbrev rJ : List OSh := [.box [.e (.st .cfg), .e (.sl .int), .own 3, .sln .int], .box [.e .int], .box [.ptr 0 0], .arr (.st .acc)]
noncomputable abbrev goneC2E : Ge := Ge.m 267 Tryz.f267 [rc] [vi, vi, rc] (Int × Int × Int) fun x a => (a.1, a.2.1, ((), x.1.2.1, a.2.2, ()), ())
def aHt (p0 : loadE.T) (p1 : nextE.T) (w r : Int) (c : Cfg) (got held : List Int) : F (Int × Int × Int) :=
 (p0 w r 0 c got held).bind fun x0 =>
 (p0 w r 2 c got held).bind fun x1 =>
 (p1 w r 3 c got held).bind fun x2 =>
 .ret (x0, x1, x2)
def goneC2F : goneC2E.T := aHt loadF nextF
theorem aSi (p0 : loadE.T) (p1 : nextE.T) (x) : goneC2E.run [loadE.on p0, nextE.on p1] [] [] x = goneC2E.go (aHt p0 p1) x some := by kernel_rfl
theorem goneC2_ok : goneC2E.Ok goneC2F := Ge.k (by kernel_rfl) (load_ok.k (next_ok.k g0)) (aA (by kernel_rfl)) (aSi loadF nextF)
noncomputable abbrev goneC3E : Ge := ⟨269, Tryz.f269, [vi, vi, rc, .s (.ptr 1 0), .s (.ptr 2 0)], rJ, [], rJ, aFl, Unit, fun x a d => ((), ((x.2.1.1, x.2.1.2.1, (), x.2.1.2.2.2.1, ()), (x.2.2.1.1, ()), ((), ()), d, ())), fun o d => ((o.1.1, o.1.2.1, (), (), ()), (), (), d, ()), fun o => o.1.2.1, fun o => o.2.2.2.1⟩
def aHu (p0 : retireE.T) (p1 : setE.T) (p2 : unlinkE.T) (i other w r : Int) (c : Cfg) (got held : List Int) (n : Int) : F (Unit) :=
 .ite (other != n) ((p2 (Sid.mk 2 4 2 1) other w r c got held).bind fun _ =>
 (p1 (w64 (w64 (c.ids + 1) + i)) 0 c got held).bind fun _ =>
 (p0 w r c got held).bind fun _ =>
 .ret ())
 ((p1 (w64 (w64 (c.ids + 1) + i)) 0 c got held).bind fun _ =>
 (p0 w r c got held).bind fun _ =>
 .ret ())
def goneC3F : goneC3E.T := aHu retireF setF unlinkF
theorem aSj (p0 : retireE.T) (p1 : setE.T) (p2 : unlinkE.T) (x) : goneC3E.run [retireE.on p0, setE.on p1, edgeAtE.on edgeAtF, unlinkE.on p2] [] [] x = goneC3E.go (aHu p0 p1 p2) x some := by kernel_rfl
theorem goneC3_ok : goneC3E.Ok goneC3F := Ge.k (by kernel_rfl) (retire_ok.k (set_ok.k (edgeAt_ok.k (unlink_ok.k g0)))) (aA (by kernel_rfl)) (aSj retireF setF unlinkF)
noncomputable abbrev gone1L0E : He := ⟨4, Tryz.f266, 0, [3, 4, 10], [.clo 267 [], .clo 269 [.ptr 1 0, .ptr 2 0], .s (.ptr 4 0)], bKn, ((Fin.one 4 Tryz.f266.ntmps (.exit 0) [] [] rJ).or (Fin.pan 4 188 (.agg []) aFl)), Cfg → List Int → List Int → Int → Int → Int → F (Unit), Unit, fun t x => t x.2.1.1 x.2.1.2.1 x.2.1.2.2.2.1 x.2.2.1.1 x.2.2.2.2.2.1.2.1 x.2.2.2.2.2.1.2.2.1, fun x a d K => K (Sum.inl (((), ((x.2.1.1, x.2.1.2.1, (), x.2.1.2.2.2.1, ()), (x.2.2.1.1, ()), ((), ()), d, ())))), fun x d => Sum.inr ((((), ()), ((x.2.1.1, x.2.1.2.1, (), (), ()), (), (), d, ()))), fun x => x.2.1.2.1, fun x => x.2.2.2.2.1, fun _ _ _ _ => rfl⟩
def aMp (x : gone1L0E.X) (s : Int) (d : List Acc) : gone1L0E.X := (((), ((), (), ()), (), ()), ((x.2.1.1, x.2.1.2.1, (), x.2.1.2.2.2.1, ()), (x.2.2.1.1, ()), ((), ()), d, ((), x.2.2.2.2.2.1.2.1, s, ()), ()))
def uS (p0 : goneC2E.T) (p1 : goneC3E.T) (c : Cfg) (got held : List Int) (n v11 st : Int) : F ((Int) ⊕ (Unit)) :=
 let v12 := st; 
 .ite (!v12 == 0) ((p0 v11 v12 c got held).bind fun x1 =>
 (p1 x1.1 x1.2.1 v11 v12 c got held n).bind fun _ =>
 .ret (Sum.inl x1.2.2))
 (.ret (Sum.inr ()))
abbrev xT (c : Cfg) (got held : List Int) (n v11 st : Int) := (uS goneC2F goneC3F c got held n v11 st).tree
def gone1L0F : gone1L0E.LT := fun c got held n v11 s0 => .tr (T.loop (xT c got held n v11) (got.length + 10) s0)
theorem aMq (p0 : goneC2E.T) (p1 : goneC3E.T) (x) : gone1L0E.run [loadE.on loadF, edgeE.on edgeF, noneE.on noneF, goneC2E.on p0, goneC3E.on p1] [] [] x = gone1L0E.go1 aMp (uS p0 p1 x.2.1.1 x.2.1.2.1 x.2.1.2.2.2.1 x.2.2.1.1 x.2.2.2.2.2.1.2.1 x.2.2.2.2.2.1.2.2.1) x := by kernel_rfl
theorem aSk : gone1L0E.Ok gone1L0F := He.k aMp (fun x => x.2.2.2.2.2.1.2.2.1) (fun x s => uS goneC2F goneC3F x.2.1.1 x.2.1.2.1 x.2.1.2.2.2.1 x.2.2.1.1 x.2.2.2.2.2.1.2.1 s) (fo f1 fp) (load_ok.k (edge_ok.k (none_ok.k (goneC2_ok.k (goneC3_ok.k g0))))) (aA (by kernel_rfl)) (aMq goneC2F goneC3F) (fun _ => rfl) (fun _ => rfl) (fun _ _ _ => rfl) (fun _ _ _ => ⟨rfl, rfl⟩)
noncomputable abbrev gone1E : Ge := ⟨266, Tryz.f266, [pm, rc, .s (.e (.st .sid)), .clo 267 [], .clo 269 [.ptr 1 0, .ptr 2 0]], rJ, [], rJ, aFl, Unit, fun x a d => ((), ((x.2.1.1, x.2.1.2.1, (), x.2.1.2.2.2.1, ()), (x.2.2.1.1, ()), ((), ()), d, ())), fun o d => ((o.1.1, o.1.2.1, (), (), ()), (), (), d, ()), fun o => o.1.2.1, fun o => o.2.2.2.1⟩
def bFi (p0 : loadE.T) (p1 : goneC2E.T) (p2 : goneC3E.T) (p3 : gone1L0E.LT) (w r : Int) (s : Sid) (c : Cfg) (got held : List Int) (n : Int) : F (Unit) :=
 (p0 w r s.head c got held).bind fun x0 =>
 (p3 c got held n 2 x0).bind fun _ =>
 .ret ()
def gone1F : gone1E.T := bFi loadF goneC2F goneC3F gone1L0F
abbrev aVp (w r : Int) (s : Sid) (c : Cfg) (got held : List Int) (n : Int) := (gone1F w r s c got held n).tree
theorem aZv (p0 : loadE.T) (p1 : goneC2E.T) (p2 : goneC3E.T) (p3 : gone1L0E.LT) (x) : gone1E.run [loadE.on p0, edgeE.on edgeF, noneE.on noneF, goneC2E.on p1, goneC3E.on p2] [(2, gone1L0E.on p3)] [] x = gone1E.go (bFi p0 p1 p2 p3) x some := by kernel_rfl
theorem gone1_ok : gone1E.Ok gone1F := Ge.k (by kernel_rfl) (load_ok.k (edge_ok.k (none_ok.k (goneC2_ok.k (goneC3_ok.k g0))))) (bD (by kernel_rfl) (lhc (by kernel_rfl) aSk rfl lsn)) (aZv loadF goneC2F goneC3F gone1L0F)
noncomputable abbrev goneC4E : Ge := Ge.m 270 Tryz.f270 [rc] [vi, vi, rc] (Int × Int) fun x a => (0, a.1, ((), x.1.2.1, a.2, ()), ())
def aHv (p0 : loadE.T) (p1 : nextE.T) (w r : Int) (c : Cfg) (got held : List Int) : F (Int × Int) :=
 (p0 w r 1 c got held).bind fun x0 =>
 (p1 w r 4 c got held).bind fun x1 =>
 .ret (x0, x1)
def goneC4F : goneC4E.T := aHv loadF nextF
theorem aSl (p0 : loadE.T) (p1 : nextE.T) (x) : goneC4E.run [loadE.on p0, nextE.on p1] [] [] x = goneC4E.go (aHv p0 p1) x some := by kernel_rfl
theorem goneC4_ok : goneC4E.Ok goneC4F := Ge.k (by kernel_rfl) (load_ok.k (next_ok.k g0)) (aA (by kernel_rfl)) (aSl loadF nextF)
noncomputable abbrev goneC5E : Ge := ⟨271, Tryz.f271, [vi, vi, rc, .s (.ptr 1 0), .s (.ptr 2 0)], rJ, [], rJ, aFl, Unit, fun x a d => ((), ((x.2.1.1, x.2.1.2.1, (), x.2.1.2.2.2.1, ()), (x.2.2.1.1, ()), ((), ()), d, ())), fun o d => ((o.1.1, o.1.2.1, (), (), ()), (), (), d, ()), fun o => o.1.2.1, fun o => o.2.2.2.1⟩
def aHw (p0 : loadE.T) (p1 : retireE.T) (p2 : setE.T) (p3 : unlinkE.T) (i other w r : Int) (c : Cfg) (got held : List Int) (n : Int) : F (Unit) :=
 .ite (other == n) (.ret ())
 ((p0 w r 0 c got held).bind fun x0 =>
 (p3 (Sid.mk 1 3 1 2) other w r c got held).bind fun _ =>
 (p2 (w64 (w64 (c.ids + 1) + x0)) 0 c got held).bind fun _ =>
 (p1 w r c got held).bind fun _ =>
 .ret ())
def goneC5F : goneC5E.T := aHw loadF retireF setF unlinkF
theorem aSm (p0 : loadE.T) (p1 : retireE.T) (p2 : setE.T) (p3 : unlinkE.T) (x) : goneC5E.run [loadE.on p0, retireE.on p1, setE.on p2, edgeAtE.on edgeAtF, unlinkE.on p3] [] [] x = goneC5E.go (aHw p0 p1 p2 p3) x some := by kernel_rfl
theorem goneC5_ok : goneC5E.Ok goneC5F := Ge.k (by kernel_rfl) (load_ok.k (retire_ok.k (set_ok.k (edgeAt_ok.k (unlink_ok.k g0))))) (aA (by kernel_rfl)) (aSm loadF retireF setF unlinkF)
noncomputable abbrev gone2L0E : He := ⟨4, Tryz.f266, 0, [3, 4, 10], [.clo 270 [], .clo 271 [.ptr 1 0, .ptr 2 0], .s (.ptr 4 0)], bKn, ((Fin.one 4 Tryz.f266.ntmps (.exit 0) [] [] rJ).or (Fin.pan 4 188 (.agg []) aFl)), Cfg → List Int → List Int → Int → Int → Int → F (Unit), Unit, fun t x => t x.2.1.1 x.2.1.2.1 x.2.1.2.2.2.1 x.2.2.1.1 x.2.2.2.2.2.1.2.1 x.2.2.2.2.2.1.2.2.1, fun x a d K => K (Sum.inl (((), ((x.2.1.1, x.2.1.2.1, (), x.2.1.2.2.2.1, ()), (x.2.2.1.1, ()), ((), ()), d, ())))), fun x d => Sum.inr ((((), ()), ((x.2.1.1, x.2.1.2.1, (), (), ()), (), (), d, ()))), fun x => x.2.1.2.1, fun x => x.2.2.2.2.1, fun _ _ _ _ => rfl⟩
def aMr (x : gone2L0E.X) (s : Int) (d : List Acc) : gone2L0E.X := (((), ((), (), ()), (), ()), ((x.2.1.1, x.2.1.2.1, (), x.2.1.2.2.2.1, ()), (x.2.2.1.1, ()), ((), ()), d, ((), x.2.2.2.2.2.1.2.1, s, ()), ()))
def uT (p0 : goneC4E.T) (p1 : goneC5E.T) (c : Cfg) (got held : List Int) (n v11 st : Int) : F ((Int) ⊕ (Unit)) :=
 let v12 := st; 
 .ite (!v12 == 0) ((p0 v11 v12 c got held).bind fun x1 =>
 (p1 0 x1.1 v11 v12 c got held n).bind fun _ =>
 .ret (Sum.inl x1.2))
 (.ret (Sum.inr ()))
abbrev xU (c : Cfg) (got held : List Int) (n v11 st : Int) := (uT goneC4F goneC5F c got held n v11 st).tree
def gone2L0F : gone2L0E.LT := fun c got held n v11 s0 => .tr (T.loop (xU c got held n v11) (got.length + 10) s0)
theorem aMs (p0 : goneC4E.T) (p1 : goneC5E.T) (x) : gone2L0E.run [loadE.on loadF, edgeE.on edgeF, noneE.on noneF, goneC4E.on p0, goneC5E.on p1] [] [] x = gone2L0E.go1 aMr (uT p0 p1 x.2.1.1 x.2.1.2.1 x.2.1.2.2.2.1 x.2.2.1.1 x.2.2.2.2.2.1.2.1 x.2.2.2.2.2.1.2.2.1) x := by kernel_rfl
theorem aSn : gone2L0E.Ok gone2L0F := He.k aMr (fun x => x.2.2.2.2.2.1.2.2.1) (fun x s => uT goneC4F goneC5F x.2.1.1 x.2.1.2.1 x.2.1.2.2.2.1 x.2.2.1.1 x.2.2.2.2.2.1.2.1 s) (fo f1 fp) (load_ok.k (edge_ok.k (none_ok.k (goneC4_ok.k (goneC5_ok.k g0))))) (aA (by kernel_rfl)) (aMs goneC4F goneC5F) (fun _ => rfl) (fun _ => rfl) (fun _ _ _ => rfl) (fun _ _ _ => ⟨rfl, rfl⟩)
noncomputable abbrev gone2E : Ge := ⟨266, Tryz.f266, [pm, rc, .s (.e (.st .sid)), .clo 270 [], .clo 271 [.ptr 1 0, .ptr 2 0]], rJ, [], rJ, aFl, Unit, fun x a d => ((), ((x.2.1.1, x.2.1.2.1, (), x.2.1.2.2.2.1, ()), (x.2.2.1.1, ()), ((), ()), d, ())), fun o d => ((o.1.1, o.1.2.1, (), (), ()), (), (), d, ()), fun o => o.1.2.1, fun o => o.2.2.2.1⟩
def bFj (p0 : loadE.T) (p1 : goneC4E.T) (p2 : goneC5E.T) (p3 : gone2L0E.LT) (w r : Int) (s : Sid) (c : Cfg) (got held : List Int) (n : Int) : F (Unit) :=
 (p0 w r s.head c got held).bind fun x0 =>
 (p3 c got held n 2 x0).bind fun _ =>
 .ret ()
def gone2F : gone2E.T := bFj loadF goneC4F goneC5F gone2L0F
abbrev aVq (w r : Int) (s : Sid) (c : Cfg) (got held : List Int) (n : Int) := (gone2F w r s c got held n).tree
theorem aZw (p0 : loadE.T) (p1 : goneC4E.T) (p2 : goneC5E.T) (p3 : gone2L0E.LT) (x) : gone2E.run [loadE.on p0, edgeE.on edgeF, noneE.on noneF, goneC4E.on p1, goneC5E.on p2] [(2, gone2L0E.on p3)] [] x = gone2E.go (bFj p0 p1 p2 p3) x some := by kernel_rfl
theorem gone2_ok : gone2E.Ok gone2F := Ge.k (by kernel_rfl) (load_ok.k (edge_ok.k (none_ok.k (goneC4_ok.k (goneC5_ok.k g0))))) (bD (by kernel_rfl) (lhc (by kernel_rfl) aSn rfl lsn)) (aZw loadF goneC4F goneC5F gone2L0F)
noncomputable abbrev holdCdE : Fe := ⟨265, Tryz.f265, [], [], [vb], []⟩
noncomputable def holdCdN : holdCdE.T := fun _ => some (((false, ()), ()))
theorem holdCd_ok : holdCdE.Ok holdCdN := Fe.k (Lc := []) (nh := []) (by kernel_rfl) g0 (aA (by kernel_rfl)) fun x => by kernel_rfl
noncomputable abbrev setPropE : Ge := ⟨190, Tryz.f190, [pm, vi, vi, vi], mach, [.s (.e (.st .res))], mach, machP, Res × List Int, fun x a d => ((a.1, ()), ((x.2.1.1, x.2.1.2.1, (), a.2, ()), d, ())), fun o d => ((o.1.1, o.1.2.1, (), (), ()), d, ()), fun o => o.1.2.1, fun o => o.2.1⟩
def aMt (p0 : loadE.T) (p1 : storeE.T) (p2 : takeE.T) (p3 : findE.T) (p4 : knownE.T) (p5 : latchE.T) (p6 : walkSE.T) (n k v : Int) (c : Cfg) (got held : List Int) : F (Res × List Int) :=
 (p4 [n] c got held).bind fun x0 =>
 .ite (!x0) (.ret (Res.mk 2 0 [] [] [], held))
 ((p5 [n] c got held).bind fun x1 =>
 (p3 n c got x1).bind fun x2 =>
 .ite (x2 == 0) (.ret (Res.mk 2 0 [] [] [], x1))
 ((p0 1 x2 3 c got x1).bind fun x4 =>
 (p6 3 x4 c got x1 k v).bind fun x6 =>
 .ite (x6) (.ret (Res.mk 0 0 [] [] [], x1))
 ((p2 3 c got x1).bind fun x7 =>
 .ite (x7 == 0) (.ret (Res.mk 3 0 [] [] [], x1))
 ((p1 3 x7 0 k c got x1).bind fun _ =>
 (p1 3 x7 1 v c got x1).bind fun _ =>
 (p1 3 x7 2 x4 c got x1).bind fun _ =>
 (p1 1 x2 3 x7 c got x1).bind fun _ =>
 .ret (Res.mk 0 0 [] [] [], x1)))))
def setPropF : setPropE.T := aMt loadF storeF takeF findF knownF latchF walkSF
abbrev aFm (n k v : Int) (c : Cfg) (got held : List Int) := (setPropF n k v c got held).tree
theorem aMu (p0 : loadE.T) (p1 : storeE.T) (p2 : takeE.T) (p3 : findE.T) (p4 : knownE.T) (p5 : latchE.T) (p6 : walkSE.T) (x) : setPropE.run [loadE.on p0, storeE.on p1, takeE.on p2, propE.on propF, noneE.on noneF, findE.on p3, failedE.on failedN, knownE.on p4, latchE.on p5, walkSE.on p6] [] [] x = setPropE.go (aMt p0 p1 p2 p3 p4 p5 p6) x some := by kernel_rfl
theorem setProp_ok : setPropE.Ok setPropF := Ge.k (by kernel_rfl) (load_ok.k (store_ok.k (take_ok.k (prop_ok.k (none_ok.k (find_ok.k (failed_ok.k (known_ok.k (latch_ok.k (walkS_ok.k g0)))))))))) (aA (by kernel_rfl)) (aMu loadF storeF takeF findF knownF latchF walkSF)
noncomputable abbrev delPropE : Ge := ⟨191, Tryz.f191, [pm, vi, vi], mach, [.s (.e (.st .res))], mach, machP, Res × List Int, fun x a d => ((a.1, ()), ((x.2.1.1, x.2.1.2.1, (), a.2, ()), d, ())), fun o d => ((o.1.1, o.1.2.1, (), (), ()), d, ()), fun o => o.1.2.1, fun o => o.2.1⟩
def aMv (p0 : loadE.T) (p1 : findE.T) (p2 : knownE.T) (p3 : latchE.T) (p4 : walkDE.T) (n k : Int) (c : Cfg) (got held : List Int) : F (Res × List Int) :=
 (p2 [n] c got held).bind fun x0 =>
 .ite (!x0) (.ret (Res.mk 2 0 [] [] [], held))
 ((p3 [n] c got held).bind fun x1 =>
 (p1 n c got x1).bind fun x2 =>
 .ite (x2 == 0) (.ret (Res.mk 2 0 [] [] [], x1))
 ((p0 1 x2 3 c got x1).bind fun x4 =>
 (p4 3 x4 c got x1 k 1 x2).bind fun x6 =>
 .ite (x6) (.ret (Res.mk 0 0 [] [] [], x1))
 (.ret (Res.mk 2 0 [] [] [], x1))))
def delPropF : delPropE.T := aMv loadF findF knownF latchF walkDF
abbrev aFn (n k : Int) (c : Cfg) (got held : List Int) := (delPropF n k c got held).tree
theorem aMw (p0 : loadE.T) (p1 : findE.T) (p2 : knownE.T) (p3 : latchE.T) (p4 : walkDE.T) (x) : delPropE.run [loadE.on p0, propE.on propF, noneE.on noneF, findE.on p1, failedE.on failedN, knownE.on p2, latchE.on p3, walkDE.on p4] [] [] x = delPropE.go (aMv p0 p1 p2 p3 p4) x some := by kernel_rfl
theorem delProp_ok : delPropE.Ok delPropF := Ge.k (by kernel_rfl) (load_ok.k (prop_ok.k (none_ok.k (find_ok.k (failed_ok.k (known_ok.k (latch_ok.k (walkD_ok.k g0)))))))) (aA (by kernel_rfl)) (aMw loadF findF knownF latchF walkDF)
abbrev bFk : List OSh := [.box [.e (.st .cfg), .e (.sl .int), .own 1, .sln .int], .arr (.st .acc), .box [.e (.st .res)]]
noncomputable abbrev pairsE : Ge := Ge.m 193 Tryz.f193 [pm, rc] [.s (.e (.st .res))] (Res) fun x a => (a, ())
def bFl (p0 : loadE.T) (p1 : walkPE.T) (w r : Int) (c : Cfg) (got held : List Int) : F (Res) :=
 (p0 w r 3 c got held).bind fun x0 =>
 (p1 3 x0 c got held 0 0 [] [] []).bind fun x2 =>
 (F.gd (pI x2.length) ()).bind fun _ =>
 .ret (Res.mk 0 0 (aCv x2) [] [])
def pairsF : pairsE.T := bFl loadF walkPF
abbrev aVr (w r : Int) (c : Cfg) (got held : List Int) := (pairsF w r c got held).tree
theorem aZx (p0 : loadE.T) (p1 : walkPE.T) (x) : pairsE.run [loadE.on p0, propE.on propF, walkPE.on p1, stabPrE.on] [] [(0, [(4, some 2, (.st .pr))])] x = pairsE.go (bFl p0 p1) x some := by kernel_rfl
theorem pairs_ok : pairsE.Ok pairsF := Ge.k (by kernel_rfl) (load_ok.k (prop_ok.k (walkP_ok.k (stabPrU_ok.k g0)))) (aA (by kernel_rfl)) (aZx loadF walkPF)
noncomputable abbrev lookPL0E : He := ⟨2, Tryz.f192, 0, [0, 1, 2, 6], [pm, vi, .clo 1000193 [.ptr 0 0], .s (.ptr 2 0)], bFk, ((Fin.one 2 Tryz.f192.ntmps .ret [6] [.s (.ptr 2 0)] bFk).or (Fin.pan 2 188 (.agg []) machP)), Int → Cfg → List Int → List Int → Res → F (Res), Res, fun t x => t x.1.2.1 x.2.1.1 x.2.1.2.1 x.2.1.2.2.2.1 x.2.2.2.1.1, fun x a d K => K (Sum.inl ((((), ()), ((x.2.1.1, x.2.1.2.1, (), x.2.1.2.2.2.1, ()), d, (a, ()), ())))), fun x d => Sum.inr ((((), ()), ((x.2.1.1, x.2.1.2.1, (), (), ()), d, ()))), fun x => x.2.1.2.1, fun x => x.2.2.1, fun _ _ _ _ => rfl⟩
def aMx (x : lookPL0E.X) (s : Unit) (d : List Acc) : lookPL0E.X := (((), x.1.2.1, ((), ()), (), ()), ((x.2.1.1, x.2.1.2.1, (), x.2.1.2.2.2.1, ()), d, (x.2.2.2.1.1, ()), ()))
def uU (p0 : seeE.T) (p1 : findE.T) (p2 : pairsE.T) (v1 : Int) (c : Cfg) (got held : List Int) (v9 : Res) (st : Unit) : F ((Unit) ⊕ (Res)) :=
 
 (p0 v1 c got held).bind fun x0 =>
 (p1 v1 c got held).bind fun x1 =>
 .ite (x1 == 0) (.ret (Sum.inr (Res.mk 2 0 [] [] [])))
 ((p2 1 x1 c got held).bind fun x3 =>
 (p0 v1 c got held).bind fun x4 =>
 .ite (x4 == x0) (.ret (Sum.inr x3))
 (.ret (Sum.inl ())))
abbrev xV (v1 : Int) (c : Cfg) (got held : List Int) (v9 : Res) (st : Unit) := (uU seeF findF pairsF v1 c got held v9 st).tree
def lookPL0F : lookPL0E.LT := fun v1 c got held v9  => .tr (T.loop (xV v1 c got held v9) (got.length + 10) ())
theorem aMy (p0 : seeE.T) (p1 : findE.T) (p2 : pairsE.T) (x) : lookPL0E.run [seeE.on p0, noneE.on noneF, findE.on p1, failedE.on failedN, knownE.on knownF, pairsE.on p2] [] [] x = lookPL0E.go1 aMx (uU p0 p1 p2 x.1.2.1 x.2.1.1 x.2.1.2.1 x.2.1.2.2.2.1 x.2.2.2.1.1 ()) x := by kernel_rfl
theorem aSo : lookPL0E.Ok lookPL0F := He.k aMx (fun x => ()) (fun x s => uU seeF findF pairsF x.1.2.1 x.2.1.1 x.2.1.2.1 x.2.1.2.2.2.1 x.2.2.2.1.1 s) (fo f1 fp) (see_ok.k (none_ok.k (find_ok.k (failed_ok.k (known_ok.k (pairs_ok.k g0)))))) (aA (by kernel_rfl)) (aMy seeF findF pairsF) (fun _ => rfl) (fun _ => rfl) (fun _ _ _ => rfl) (fun _ _ _ => ⟨rfl, rfl⟩)
noncomputable abbrev lookPE : Ge := Ge.m 192 Tryz.f192 [pm, vi, .clo 1000193 [.ptr 0 0]] [.s (.e (.st .res))] (Res) fun x a => (a, ())
def bFm (p0 : seeE.T) (p1 : findE.T) (p2 : knownE.T) (p3 : pairsE.T) (p4 : lookPL0E.LT) (n : Int) (c : Cfg) (got held : List Int) : F (Res) :=
 (p2 [n] c got held).bind fun x0 =>
 .ite (!x0) (.ret (Res.mk 2 0 [] [] []))
 ((p4 n c got held (Res.mk 0 0 [] [] [])).bind fun x1 =>
 .ret x1)
def lookPF : lookPE.T := bFm seeF findF knownF pairsF lookPL0F
abbrev aVs (n : Int) (c : Cfg) (got held : List Int) := (lookPF n c got held).tree
theorem aZy (p0 : seeE.T) (p1 : findE.T) (p2 : knownE.T) (p3 : pairsE.T) (p4 : lookPL0E.LT) (x) : lookPE.run [seeE.on p0, noneE.on noneF, findE.on p1, failedE.on failedN, knownE.on p2, pairsE.on p3] [(3, lookPL0E.on p4)] [] x = lookPE.go (bFm p0 p1 p2 p3 p4) x some := by kernel_rfl
theorem lookP_ok : lookPE.Ok lookPF := Ge.k (by kernel_rfl) (see_ok.k (none_ok.k (find_ok.k (failed_ok.k (known_ok.k (pairs_ok.k g0)))))) (bD (by kernel_rfl) (lhc (by kernel_rfl) aSo rfl lsn)) (aZy seeF findF knownF pairsF lookPL0F)
noncomputable abbrev holdDL0E : He := ⟨2, Tryz.f264, 0, [0, 1, 2, 3, 8, 10, 11], [pm, vi, .s (.lent .int), .clo 265 [], .s (.ptr 2 0), .s (.ptr 3 0), .s (.own 4)], [.box [.e (.st .cfg), .e (.sl .int), .own 1, .sln .int], .arr (.st .acc), .box [.any, .e .int, .e .int], .box [.ptr 0 0, .e .int, .e .int], .arr .int], ((Fin.one 2 Tryz.f264.ntmps .ret [8, 9] [.s (.ptr 2 0), vb] [.box [.e (.st .cfg), .e (.sl .int), .own 1, .sln .int], .arr (.st .acc), .box [.ptr 0 0, .e .int, .e .int]]).or (Fin.pan 2 188 (.agg []) machP)), Int → List Int → Cfg → List Int → Int → Int → List Int → Int → Int → List Int → F (Bool × List Int × Int), Bool × List Int × Int, fun t x => t x.1.2.1 x.1.2.2.1 x.2.1.1 x.2.1.2.1 x.2.2.2.1.2.1 x.2.2.2.1.2.2.1 x.2.1.2.2.2.1 x.2.2.2.2.1.2.1 x.2.2.2.2.1.2.2.1 x.2.2.2.2.2.1, fun x a d K => K (Sum.inl ((((), a.1, ()), ((x.2.1.1, x.2.1.2.1, (), a.2.1, ()), d, ((), 1, a.2.2, ()), ())))), fun x d => Sum.inr ((((), ()), ((x.2.1.1, x.2.1.2.1, (), (), ()), d, ()))), fun x => x.2.1.2.1, fun x => x.2.2.1, fun _ _ _ _ => rfl⟩
def aMz (x : holdDL0E.X) (s : List Int × Int × Int × List Int) (d : List Acc) : holdDL0E.X := (((), x.1.2.1, x.1.2.2.1, (), (), (), (), ()), ((x.2.1.1, x.2.1.2.1, (), s.1, ()), d, ((), x.2.2.2.1.2.1, x.2.2.2.1.2.2.1, ()), ((), s.2.1, s.2.2.1, ()), s.2.2.2, ()))
def uV (p0 : findE.T) (p1 : latchE.T) (p2 : aroundE.T) (p3 : freeE.T) (v1 : Int) (v2 : List Int) (c : Cfg) (got : List Int) (v12 v13 : Int) (st : List Int × Int × Int × List Int) : F ((List Int × Int × Int × List Int) ⊕ (Bool × List Int × Int)) :=
 let held := st.1; let v15 := st.2.1; let v16 := st.2.2.1; let v17 := st.2.2.2; 
 (p1 v17 c got held).bind fun x0 =>
 (p0 v1 c got x0).bind fun x1 =>
 .ite (x1 == 0) (.ret (Sum.inr (false, x0, x1)))
 ((p2 1 x1 c got x0).bind fun x4 =>
 .ite (decide (x4.length + v2.length ≤ 1000000000)) ((F.gd (mH (x4 ++ v2) && mH x0) ()).bind fun _ =>
 .ite (xK (x4 ++ v2) x0) (.ret (Sum.inr (true, x0, x1)))
 ((p3 c got x0).bind fun _ =>
 .ret (Sum.inl ([], 1, x1, x4 ++ v2))))
 (.tr .bot))
abbrev xW (v1 : Int) (v2 : List Int) (c : Cfg) (got : List Int) (v12 v13 : Int) (st : List Int × Int × Int × List Int) := (uV findF latchF aroundF freeF v1 v2 c got v12 v13 st).tree
def holdDL0F : holdDL0E.LT := fun v1 v2 c got v12 v13 s0 s1 s2 s3 => .tr (T.loop (xW v1 v2 c got v12 v13) (got.length + 10) (s0, s1, s2, s3))
theorem aNa (p0 : findE.T) (p1 : latchE.T) (p2 : aroundE.T) (p3 : freeE.T) (x) : holdDL0E.run [noneE.on noneF, findE.on p0, latchE.on p1, aroundE.on p2, holdCdE.on holdCdN, ordWithinE.on, freeE.on p3] [] [] x = holdDL0E.go1 aMz (uV p0 p1 p2 p3 x.1.2.1 x.1.2.2.1 x.2.1.1 x.2.1.2.1 x.2.2.2.1.2.1 x.2.2.2.1.2.2.1 (x.2.1.2.2.2.1, x.2.2.2.2.1.2.1, x.2.2.2.2.1.2.2.1, x.2.2.2.2.2.1)) x := by kernel_rfl
theorem aSp : holdDL0E.Ok holdDL0F := He.k aMz (fun x => (x.2.1.2.2.2.1, x.2.2.2.2.1.2.1, x.2.2.2.2.1.2.2.1, x.2.2.2.2.2.1)) (fun x s => uV findF latchF aroundF freeF x.1.2.1 x.1.2.2.1 x.2.1.1 x.2.1.2.1 x.2.2.2.1.2.1 x.2.2.2.1.2.2.1 s) (fo f1 fp) (none_ok.k (find_ok.k (latch_ok.k (around_ok.k (holdCd_ok.k (ordWithinU_ok.k (freeF_ok.k g0))))))) (aA (by kernel_rfl)) (aNa findF latchF aroundF freeF) (fun _ => rfl) (fun _ => rfl) (fun _ _ _ => rfl) (fun _ _ _ => ⟨rfl, rfl⟩)
noncomputable abbrev holdDE : Ge := ⟨264, Tryz.f264, [pm, vi, .s (.lent .int), .clo 265 []], mach, [rc, vb], mach, machP, Int × Bool × List Int, fun x a d => ((((), 1, a.1, ()), a.2.1, ()), ((x.2.1.1, x.2.1.2.1, (), a.2.2, ()), d, ())), fun o d => ((o.1.1, o.1.2.1, (), (), ()), d, ()), fun o => o.1.2.1, fun o => o.2.1⟩
def bFn (p0 : findE.T) (p1 : latchE.T) (p2 : aroundE.T) (p3 : freeE.T) (p4 : holdDL0E.LT) (n : Int) (more : List Int) (c : Cfg) (got held : List Int) : F (Int × Bool × List Int) :=
 (p0 n c got held).bind fun x0 =>
 .ite (x0 == 0) (.ret (x0, false, held))
 ((p2 1 x0 c got held).bind fun x2 =>
 .ite (decide (x2.length + more.length ≤ 1000000000)) ((p4 n more c got 0 0 held 1 x0 (x2 ++ more)).bind fun x3 =>
 .ret (x3.2.2, x3.1, x3.2.1))
 (.tr .bot))
def holdDF : holdDE.T := bFn findF latchF aroundF freeF holdDL0F
abbrev aVt (n : Int) (more : List Int) (c : Cfg) (got held : List Int) := (holdDF n more c got held).tree
theorem aZz (p0 : findE.T) (p1 : latchE.T) (p2 : aroundE.T) (p3 : freeE.T) (p4 : holdDL0E.LT) (x) : holdDE.run [noneE.on noneF, findE.on p0, latchE.on p1, aroundE.on p2, holdCdE.on holdCdN, ordWithinE.on, freeE.on p3] [(5, holdDL0E.on p4)] [] x = holdDE.go (bFn p0 p1 p2 p3 p4) x some := by kernel_rfl
theorem holdD_ok : holdDE.Ok holdDF := Ge.k (by kernel_rfl) (none_ok.k (find_ok.k (latch_ok.k (around_ok.k (holdCd_ok.k (ordWithinU_ok.k (freeF_ok.k g0))))))) (bD (by kernel_rfl) (lhc (by kernel_rfl) aSp rfl lsn)) (aZz findF latchF aroundF freeF holdDL0F)
abbrev bFo : List OSh := [.box [.e (.st .cfg), .e (.sl .int), .own 4, .any], .any, .any, .any, .arr (.st .acc)]
abbrev bLu : List OSh := [.box [.e (.st .cfg), .e (.sl .int), .own 4, .sln .int], .box [.ptr 0 0], .box [.e .int], .box [.ptr 0 0, .e .int, .e .int], .arr (.st .acc)]
abbrev bLv : List OSh := [.box [.ptr 3 0], .box [.e .int], .box [.ptr 3 0, .e .int, .e .int], .box [.e (.st .cfg), .e (.sl .int), .own 4, .sln .int], .arr (.st .acc)]
abbrev bLw : List OSh := [.box [.ptr 3 0], .box [.e .int], .box [.any, .e .int, .e .int], .box [.e (.st .cfg), .e (.sl .int), .own 4, .sln .int], .arr (.st .acc)]
abbrev bFp : List OSh := [.box [.e (.st .cfg), .e (.sl .int), .own 4, .sln .int], .box [.ptr 0 0], .box [.e .int], .box [.any, .e .int, .e .int], .arr (.st .acc)]
noncomputable abbrev fuseC1E : Ge := ⟨272, Tryz.f272, [pm, .s (.ptr 1 0), .s (.ptr 2 0)], bLw, [vb], bLv, [.any, .any, .any, .box [.e (.st .cfg), .e (.sl .int), .own 4, .any], .arr (.st .acc)], Bool × Int, fun x a d => ((a.1, ()), (((), ()), (x.2.2.1.1, ()), ((), 1, a.2, ()), (x.2.2.2.2.1.1, x.2.2.2.2.1.2.1, (), x.2.2.2.2.1.2.2.2.1, ()), d, ())), fun o d => ((), (), (), (o.2.2.2.1.1, o.2.2.2.1.2.1, (), (), ()), d, ()), fun o => o.2.2.2.1.2.1, fun o => o.2.2.2.2.1⟩
def aHx (p0 : findE.T) (a xw xr : Int) (c : Cfg) (got held : List Int) : F (Bool × Int) :=
 (p0 a c got held).bind fun x0 =>
 .ret (x0 == 0, x0)
def fuseC1F : fuseC1E.T := aHx findF
theorem aSq (p0 : findE.T) (x) : fuseC1E.run [noneE.on noneF, findE.on p0] [] [] x = fuseC1E.go (aHx p0) x some := by kernel_rfl
theorem fuseC1_ok : fuseC1E.Ok fuseC1F := Ge.k (by kernel_rfl) (none_ok.k (find_ok.k g0)) (aA (by kernel_rfl)) (aSq findF)
noncomputable abbrev holdFL0E : He := ⟨5, Tryz.f264, 0, [0, 1, 2, 3, 8, 10, 11], [pm, vi, .s (.lent .int), .clo 272 [.ptr 1 0, .ptr 2 0, .ptr 3 0], .s (.ptr 5 0), .s (.ptr 6 0), .s (.own 7)], [.box [.e (.st .cfg), .e (.sl .int), .own 4, .sln .int], .box [.ptr 0 0], .box [.e .int], .box [.any, .e .int, .e .int], .arr (.st .acc), .box [.any, .e .int, .e .int], .box [.ptr 0 0, .e .int, .e .int], .arr .int], ((Fin.one 5 Tryz.f264.ntmps .ret [8, 9] [.s (.ptr 5 0), vb] [.box [.e (.st .cfg), .e (.sl .int), .own 4, .sln .int], .box [.ptr 0 0], .box [.e .int], .box [.ptr 0 0, .e .int, .e .int], .arr (.st .acc), .box [.ptr 0 0, .e .int, .e .int]]).or ((Fin.one 5 Tryz.f264.ntmps .ret [8, 9] [.s (.ptr 5 0), vb] [.box [.e (.st .cfg), .e (.sl .int), .own 4, .sln .int], .box [.ptr 0 0], .box [.e .int], .box [.any, .e .int, .e .int], .arr (.st .acc), .box [.ptr 0 0, .e .int, .e .int]]).or (Fin.pan 5 188 (.agg []) bFo))), Int → List Int → Cfg → List Int → Int → Int → Int → List Int → Int → Int → Int → Int → List Int → F ((Bool × List Int × Int × Int) ⊕ (List Int × Int × Int × Int)), (Bool × List Int × Int × Int) ⊕ (List Int × Int × Int × Int), fun t x => t x.1.2.1 x.1.2.2.1 x.2.1.1 x.2.1.2.1 x.2.2.2.1.1 x.2.2.2.2.2.2.1.2.1 x.2.2.2.2.2.2.1.2.2.1 x.2.1.2.2.2.1 x.2.2.2.2.1.2.1 x.2.2.2.2.1.2.2.1 x.2.2.2.2.2.2.2.1.2.1 x.2.2.2.2.2.2.2.1.2.2.1 x.2.2.2.2.2.2.2.2.1, fun x a d K => aH a (fun b => K (Sum.inl ((((), b.1, ()), ((x.2.1.1, x.2.1.2.1, (), b.2.1, ()), ((), ()), (x.2.2.2.1.1, ()), ((), 1, b.2.2.1, ()), d, ((), 1, b.2.2.2, ()), ()))))) (fun b => K (Sum.inr (Sum.inl ((((), false, ()), ((x.2.1.1, x.2.1.2.1, (), b.1, ()), ((), ()), (x.2.2.2.1.1, ()), ((), b.2.1, b.2.2.1, ()), d, ((), 1, b.2.2.2, ()), ())))))), fun x d => Sum.inr (Sum.inr ((((), ()), ((x.2.1.1, x.2.1.2.1, (), (), ()), (), (), (), d, ())))), fun x => x.2.1.2.1, fun x => x.2.2.2.2.2.1, fun _ a _ _ => by cases a <;> rfl⟩
def aNb (x : holdFL0E.X) (s : List Int × Int × Int × Int × Int × List Int) (d : List Acc) : holdFL0E.X := (((), x.1.2.1, x.1.2.2.1, ((), (), (), ()), (), (), (), ()), ((x.2.1.1, x.2.1.2.1, (), s.1, ()), ((), ()), (x.2.2.2.1.1, ()), ((), s.2.1, s.2.2.1, ()), d, ((), x.2.2.2.2.2.2.1.2.1, x.2.2.2.2.2.2.1.2.2.1, ()), ((), s.2.2.2.1, s.2.2.2.2.1, ()), s.2.2.2.2.2, ()))
def uW (p0 : findE.T) (p1 : latchE.T) (p2 : aroundE.T) (p3 : freeE.T) (p4 : fuseC1E.T) (v1 : Int) (v2 : List Int) (c : Cfg) (got : List Int) (a v20 v21 : Int) (st : List Int × Int × Int × Int × Int × List Int) : F ((List Int × Int × Int × Int × Int × List Int) ⊕ ((Bool × List Int × Int × Int) ⊕ (List Int × Int × Int × Int))) :=
 let held := st.1; let xw := st.2.1; let xr := st.2.2.1; let v23 := st.2.2.2.1; let v24 := st.2.2.2.2.1; let v25 := st.2.2.2.2.2; 
 (p1 v25 c got held).bind fun x0 =>
 (p0 v1 c got x0).bind fun x1 =>
 .ite (x1 == 0) (.ret (Sum.inr (Sum.inr ((x0, xw, xr, x1)))))
 ((p4 a xw xr c got x0).bind fun x3 =>
 .ite (x3.1) (.ret (Sum.inr (Sum.inl ((false, x0, x3.2, x1)))))
 ((p2 1 x1 c got x0).bind fun x4 =>
 .ite (decide (x4.length + v2.length ≤ 1000000000)) ((F.gd (mH (x4 ++ v2) && mH x0) ()).bind fun _ =>
 .ite (xK (x4 ++ v2) x0) (.ret (Sum.inr (Sum.inl ((true, x0, x3.2, x1)))))
 ((p3 c got x0).bind fun _ =>
 .ret (Sum.inl ([], 1, x3.2, 1, x1, x4 ++ v2))))
 (.tr .bot)))
abbrev xX (v1 : Int) (v2 : List Int) (c : Cfg) (got : List Int) (a v20 v21 : Int) (st : List Int × Int × Int × Int × Int × List Int) := (uW findF latchF aroundF freeF fuseC1F v1 v2 c got a v20 v21 st).tree
def holdFL0F : holdFL0E.LT := fun v1 v2 c got a v20 v21 s0 s1 s2 s3 s4 s5 => .tr (T.loop (xX v1 v2 c got a v20 v21) (got.length + 10) (s0, s1, s2, s3, s4, s5))
theorem aNc (p0 : findE.T) (p1 : latchE.T) (p2 : aroundE.T) (p3 : freeE.T) (p4 : fuseC1E.T) (x) : holdFL0E.run [noneE.on noneF, findE.on p0, latchE.on p1, aroundE.on p2, ordWithinE.on, freeE.on p3, fuseC1E.on p4] [] [] x = holdFL0E.go1 aNb (uW p0 p1 p2 p3 p4 x.1.2.1 x.1.2.2.1 x.2.1.1 x.2.1.2.1 x.2.2.2.1.1 x.2.2.2.2.2.2.1.2.1 x.2.2.2.2.2.2.1.2.2.1 (x.2.1.2.2.2.1, x.2.2.2.2.1.2.1, x.2.2.2.2.1.2.2.1, x.2.2.2.2.2.2.2.1.2.1, x.2.2.2.2.2.2.2.1.2.2.1, x.2.2.2.2.2.2.2.2.1)) x := by kernel_rfl
theorem aSr : holdFL0E.Ok holdFL0F := He.k aNb (fun x => (x.2.1.2.2.2.1, x.2.2.2.2.1.2.1, x.2.2.2.2.1.2.2.1, x.2.2.2.2.2.2.2.1.2.1, x.2.2.2.2.2.2.2.1.2.2.1, x.2.2.2.2.2.2.2.2.1)) (fun x s => uW findF latchF aroundF freeF fuseC1F x.1.2.1 x.1.2.2.1 x.2.1.1 x.2.1.2.1 x.2.2.2.1.1 x.2.2.2.2.2.2.1.2.1 x.2.2.2.2.2.2.1.2.2.1 s) (fo f1 (fo f1 fp)) (none_ok.k (find_ok.k (latch_ok.k (around_ok.k (ordWithinU_ok.k (freeF_ok.k (fuseC1_ok.k g0))))))) (aA (by kernel_rfl)) (aNc findF latchF aroundF freeF fuseC1F) (fun _ => rfl) (fun _ => rfl) (fun _ _ _ => rfl) (fun _ _ _ => ⟨rfl, rfl⟩)
noncomputable abbrev holdFE : Ke := ⟨264, Tryz.f264, [pm, vi, .s (.lent .int), .clo 272 [.ptr 1 0, .ptr 2 0, .ptr 3 0]], bFp, [rc, vb], bLu, [rc, vb], bFp, bFo, Int × Bool × List Int × Int, Int × List Int × Int × Int, fun x b d => ((((), 1, b.1, ()), b.2.1, ()), ((x.2.1.1, x.2.1.2.1, (), b.2.2.1, ()), ((), ()), (x.2.2.2.1.1, ()), ((), 1, b.2.2.2, ()), d, ())), fun x b d => ((((), 1, b.1, ()), false, ()), ((x.2.1.1, x.2.1.2.1, (), b.2.1, ()), ((), ()), (x.2.2.2.1.1, ()), ((), b.2.2.1, b.2.2.2, ()), d, ())), fun o d => ((o.1.1, o.1.2.1, (), (), ()), (), (), (), d, ()), fun o => o.1.2.1, fun o => o.2.2.2.2.1⟩
def bFq (p0 : findE.T) (p1 : latchE.T) (p2 : aroundE.T) (p3 : freeE.T) (p4 : fuseC1E.T) (p5 : holdFL0E.LT) (n : Int) (more : List Int) (c : Cfg) (got held : List Int) (a xw xr : Int) : F ((Int × Bool × List Int × Int) ⊕ (Int × List Int × Int × Int)) :=
 (p0 n c got held).bind fun x0 =>
 .ite (x0 == 0) (.ret (Sum.inr ((x0, held, xw, xr))))
 ((p2 1 x0 c got held).bind fun x2 =>
 .ite (decide (x2.length + more.length ≤ 1000000000)) ((p5 n more c got a 0 0 held xw xr 1 x0 (x2 ++ more)).bind fun b3 => .sel b3 (fun x3 => .ret (Sum.inl ((x3.2.2.2, x3.1, x3.2.1, x3.2.2.1))))
 (fun y3 => .ret (Sum.inr ((y3.2.2.2, y3.1, y3.2.1, y3.2.2.1)))))
 (.tr .bot))
def holdFF : holdFE.T := bFq findF latchF aroundF freeF fuseC1F holdFL0F
abbrev aVu (n : Int) (more : List Int) (c : Cfg) (got held : List Int) (a xw xr : Int) := (holdFF n more c got held a xw xr).tree
theorem bAa (p0 : findE.T) (p1 : latchE.T) (p2 : aroundE.T) (p3 : freeE.T) (p4 : fuseC1E.T) (p5 : holdFL0E.LT) (x) : holdFE.run [noneE.on noneF, findE.on p0, latchE.on p1, aroundE.on p2, ordWithinE.on, freeE.on p3, fuseC1E.on p4] [(5, holdFL0E.on p5)] [] x = holdFE.go (bFq p0 p1 p2 p3 p4 p5) x some := by kernel_rfl
theorem holdF_ok : holdFE.Ok holdFF := Ke.k (by kernel_rfl) (none_ok.k (find_ok.k (latch_ok.k (around_ok.k (ordWithinU_ok.k (freeF_ok.k (fuseC1_ok.k g0))))))) (bD (by kernel_rfl) (lhc (by kernel_rfl) aSr rfl lsn)) (bAa findF latchF aroundF freeF fuseC1F holdFL0F)
abbrev bFr : List OSh := [.box [.e (.st .cfg), .e (.sl .int), .own 1, .sln .int], .arr (.st .acc), .box [.e (.st .res)]]
noncomputable abbrev lookNL0E : He := ⟨2, Tryz.f192, 0, [0, 1, 2, 6], [pm, vi, .clo 1000194 [.ptr 0 0], .s (.ptr 2 0)], bFr, ((Fin.one 2 Tryz.f192.ntmps .ret [6] [.s (.ptr 2 0)] bFr).or (Fin.pan 2 188 (.agg []) machP)), Int → Cfg → List Int → List Int → Res → F (Res), Res, fun t x => t x.1.2.1 x.2.1.1 x.2.1.2.1 x.2.1.2.2.2.1 x.2.2.2.1.1, fun x a d K => K (Sum.inl ((((), ()), ((x.2.1.1, x.2.1.2.1, (), x.2.1.2.2.2.1, ()), d, (a, ()), ())))), fun x d => Sum.inr ((((), ()), ((x.2.1.1, x.2.1.2.1, (), (), ()), d, ()))), fun x => x.2.1.2.1, fun x => x.2.2.1, fun _ _ _ _ => rfl⟩
def aNd (x : lookNL0E.X) (s : Unit) (d : List Acc) : lookNL0E.X := (((), x.1.2.1, ((), ()), (), ()), ((x.2.1.1, x.2.1.2.1, (), x.2.1.2.2.2.1, ()), d, (x.2.2.2.1.1, ()), ()))
def uX (p0 : seeE.T) (p1 : findE.T) (p2 : endsE.T) (v1 : Int) (c : Cfg) (got held : List Int) (v9 : Res) (st : Unit) : F ((Unit) ⊕ (Res)) :=
 
 (p0 v1 c got held).bind fun x0 =>
 (p1 v1 c got held).bind fun x1 =>
 .ite (x1 == 0) (.ret (Sum.inr (Res.mk 2 0 [] [] [])))
 ((p2 1 x1 c got held).bind fun x3 =>
 (p0 v1 c got held).bind fun x4 =>
 .ite (x4 == x0) (.ret (Sum.inr x3))
 (.ret (Sum.inl ())))
abbrev xY (v1 : Int) (c : Cfg) (got held : List Int) (v9 : Res) (st : Unit) := (uX seeF findF endsF v1 c got held v9 st).tree
def lookNL0F : lookNL0E.LT := fun v1 c got held v9  => .tr (T.loop (xY v1 c got held v9) (got.length + 10) ())
theorem aNe (p0 : seeE.T) (p1 : findE.T) (p2 : endsE.T) (x) : lookNL0E.run [seeE.on p0, noneE.on noneF, findE.on p1, failedE.on failedN, knownE.on knownF, endsE.on p2] [] [] x = lookNL0E.go1 aNd (uX p0 p1 p2 x.1.2.1 x.2.1.1 x.2.1.2.1 x.2.1.2.2.2.1 x.2.2.2.1.1 ()) x := by kernel_rfl
theorem aSs : lookNL0E.Ok lookNL0F := He.k aNd (fun x => ()) (fun x s => uX seeF findF endsF x.1.2.1 x.2.1.1 x.2.1.2.1 x.2.1.2.2.2.1 x.2.2.2.1.1 s) (fo f1 fp) (see_ok.k (none_ok.k (find_ok.k (failed_ok.k (known_ok.k (ends_ok.k g0)))))) (aA (by kernel_rfl)) (aNe seeF findF endsF) (fun _ => rfl) (fun _ => rfl) (fun _ _ _ => rfl) (fun _ _ _ => ⟨rfl, rfl⟩)
noncomputable abbrev lookNE : Ge := Ge.m 192 Tryz.f192 [pm, vi, .clo 1000194 [.ptr 0 0]] [.s (.e (.st .res))] (Res) fun x a => (a, ())
def bFs (p0 : seeE.T) (p1 : findE.T) (p2 : knownE.T) (p3 : endsE.T) (p4 : lookNL0E.LT) (n : Int) (c : Cfg) (got held : List Int) : F (Res) :=
 (p2 [n] c got held).bind fun x0 =>
 .ite (!x0) (.ret (Res.mk 2 0 [] [] []))
 ((p4 n c got held (Res.mk 0 0 [] [] [])).bind fun x1 =>
 .ret x1)
def lookNF : lookNE.T := bFs seeF findF knownF endsF lookNL0F
abbrev aVv (n : Int) (c : Cfg) (got held : List Int) := (lookNF n c got held).tree
theorem bAb (p0 : seeE.T) (p1 : findE.T) (p2 : knownE.T) (p3 : endsE.T) (p4 : lookNL0E.LT) (x) : lookNE.run [seeE.on p0, noneE.on noneF, findE.on p1, failedE.on failedN, knownE.on p2, endsE.on p3] [(3, lookNL0E.on p4)] [] x = lookNE.go (bFs p0 p1 p2 p3 p4) x some := by kernel_rfl
theorem lookN_ok : lookNE.Ok lookNF := Ge.k (by kernel_rfl) (see_ok.k (none_ok.k (find_ok.k (failed_ok.k (known_ok.k (ends_ok.k g0)))))) (bD (by kernel_rfl) (lhc (by kernel_rfl) aSs rfl lsn)) (bAb seeF findF knownF endsF lookNL0F)
noncomputable abbrev dropL0E : He := ⟨2, Tryz.f195, 0, [4, 5, 7], [.s (.ptr 2 0), .s (.ptr 3 0), .s (.ptr 4 0)], [.box [.e (.st .cfg), .e (.sl .int), .own 1, .sln .int], .arr (.st .acc), .box [.e (.st .res)], .box [.ptr 0 0, .e .int, .e .int], .box [.ptr 0 0, .e .int, .e .int]], ((Fin.one 2 Tryz.f195.ntmps (.exit 0) [4, 5] [.s (.ptr 2 0), .s (.ptr 3 0)] [.box [.e (.st .cfg), .e (.sl .int), .own 1, .sln .int], .arr (.st .acc), .box [.e (.st .res)], .box [.ptr 0 0, .e .int, .e .int]]).or (Fin.pan 2 188 (.agg []) machP)), Cfg → List Int → List Int → Res → Int → Int → Int → Int → F (Unit), Unit, fun t x => t x.2.1.1 x.2.1.2.1 x.2.1.2.2.2.1 x.2.2.2.1.1 x.2.2.2.2.1.2.1 x.2.2.2.2.1.2.2.1 x.2.2.2.2.2.1.2.1 x.2.2.2.2.2.1.2.2.1, fun x a d K => K (Sum.inl ((((), (), ()), ((x.2.1.1, x.2.1.2.1, (), x.2.1.2.2.2.1, ()), d, (x.2.2.2.1.1, ()), ((), x.2.2.2.2.1.2.1, x.2.2.2.2.1.2.2.1, ()), ())))), fun x d => Sum.inr ((((), ()), ((x.2.1.1, x.2.1.2.1, (), (), ()), d, ()))), fun x => x.2.1.2.1, fun x => x.2.2.1, fun _ _ _ _ => rfl⟩
def aVw (x : dropL0E.X) (s : Int) (d : List Acc) : dropL0E.X := (((), (), (), ()), ((x.2.1.1, x.2.1.2.1, (), x.2.1.2.2.2.1, ()), d, (x.2.2.2.1.1, ()), ((), x.2.2.2.2.1.2.1, x.2.2.2.2.1.2.2.1, ()), ((), x.2.2.2.2.2.1.2.1, s, ()), ()))
def aAk (p0 : retireE.T) (p1 : nextE.T) (c : Cfg) (got held : List Int) (v8 : Res) (v10 v11 v13 st : Int) : F ((Int) ⊕ (Unit)) :=
 let v14 := st; 
 .ite (!v14 == 0) ((p1 v13 v14 2 c got held).bind fun x1 =>
 (p0 v13 v14 c got held).bind fun _ =>
 .ret (Sum.inl x1))
 (.ret (Sum.inr ()))
abbrev aCz (c : Cfg) (got held : List Int) (v8 : Res) (v10 v11 v13 st : Int) := (aAk retireF nextF c got held v8 v10 v11 v13 st).tree
def dropL0F : dropL0E.LT := fun c got held v8 v10 v11 v13 s0 => .tr (T.loop (aCz c got held v8 v10 v11 v13) (got.length + 10) s0)
theorem aSt (p0 : retireE.T) (p1 : nextE.T) (x) : dropL0E.run [nodeAtE.on nodeAtN, loadE.on loadF, retireE.on p0, setE.on setF, nextE.on p1, propE.on propF, noneE.on noneF, failedE.on failedN, knownE.on knownF, goneC2E.on goneC2F, gone1E.on gone1F, goneC4E.on goneC4F, gone2E.on gone2F, holdCdE.on holdCdN, holdDE.on holdDF] [] [] x = dropL0E.go1 aVw (aAk p0 p1 x.2.1.1 x.2.1.2.1 x.2.1.2.2.2.1 x.2.2.2.1.1 x.2.2.2.2.1.2.1 x.2.2.2.2.1.2.2.1 x.2.2.2.2.2.1.2.1 x.2.2.2.2.2.1.2.2.1) x := by kernel_rfl
theorem bAc : dropL0E.Ok dropL0F := He.k aVw (fun x => x.2.2.2.2.2.1.2.2.1) (fun x s => aAk retireF nextF x.2.1.1 x.2.1.2.1 x.2.1.2.2.2.1 x.2.2.2.1.1 x.2.2.2.2.1.2.1 x.2.2.2.2.1.2.2.1 x.2.2.2.2.2.1.2.1 s) (fo f1 fp) (nodeAt_ok.k (load_ok.k (retire_ok.k (set_ok.k (next_ok.k (prop_ok.k (none_ok.k (failed_ok.k (known_ok.k (goneC2_ok.k (gone1_ok.k (goneC4_ok.k (gone2_ok.k (holdCd_ok.k (holdD_ok.k g0))))))))))))))) (aA (by kernel_rfl)) (aSt retireF nextF) (fun _ => rfl) (fun _ => rfl) (fun _ _ _ => rfl) (fun _ _ _ => ⟨rfl, rfl⟩)
noncomputable abbrev dropE : Ge := ⟨195, Tryz.f195, [pm, vi], mach, [.s (.e (.st .res))], mach, machP, Res × List Int, fun x a d => ((a.1, ()), ((x.2.1.1, x.2.1.2.1, (), a.2, ()), d, ())), fun o d => ((o.1.1, o.1.2.1, (), (), ()), d, ()), fun o => o.1.2.1, fun o => o.2.1⟩
def bKo (p0 : loadE.T) (p1 : retireE.T) (p2 : setE.T) (p3 : nextE.T) (p4 : knownE.T) (p5 : goneC2E.T) (p6 : gone1E.T) (p7 : goneC4E.T) (p8 : gone2E.T) (p9 : holdDE.T) (p10 : dropL0E.LT) (n : Int) (c : Cfg) (got held : List Int) : F (Res × List Int) :=
 (p4 [n] c got held).bind fun x0 =>
 .ite (!x0) (.ret (Res.mk 2 0 [] [] [], held))
 ((p9 n [n] c got held).bind fun x1 =>
 .ite (!x1.2.1) (.ret (Res.mk 2 0 [] [] [], x1.2.2))
 ((p2 (w64 (n + 1)) 0 c got x1.2.2).bind fun _ =>
 (p6 1 x1.1 (Sid.mk 1 3 1 2) c got x1.2.2 n).bind fun _ =>
 (p8 1 x1.1 (Sid.mk 2 4 2 1) c got x1.2.2 n).bind fun _ =>
 (p0 1 x1.1 3 c got x1.2.2).bind fun x6 =>
 (p10 c got x1.2.2 (Res.mk 0 0 [] [] []) 1 x1.1 3 x6).bind fun _ =>
 (p1 1 x1.1 c got x1.2.2).bind fun _ =>
 .ret (Res.mk 0 0 [] [] [], x1.2.2)))
def dropF : dropE.T := bKo loadF retireF setF nextF knownF goneC2F gone1F goneC4F gone2F holdDF dropL0F
abbrev bFt (n : Int) (c : Cfg) (got held : List Int) := (dropF n c got held).tree
theorem bFu (p0 : loadE.T) (p1 : retireE.T) (p2 : setE.T) (p3 : nextE.T) (p4 : knownE.T) (p5 : goneC2E.T) (p6 : gone1E.T) (p7 : goneC4E.T) (p8 : gone2E.T) (p9 : holdDE.T) (p10 : dropL0E.LT) (x) : dropE.run [nodeAtE.on nodeAtN, loadE.on p0, retireE.on p1, setE.on p2, nextE.on p3, propE.on propF, noneE.on noneF, failedE.on failedN, knownE.on p4, goneC2E.on p5, gone1E.on p6, goneC4E.on p7, gone2E.on p8, holdCdE.on holdCdN, holdDE.on p9] [(10, dropL0E.on p10)] [] x = dropE.go (bKo p0 p1 p2 p3 p4 p5 p6 p7 p8 p9 p10) x some := by kernel_rfl
theorem drop_ok : dropE.Ok dropF := Ge.k (by kernel_rfl) (nodeAt_ok.k (load_ok.k (retire_ok.k (set_ok.k (next_ok.k (prop_ok.k (none_ok.k (failed_ok.k (known_ok.k (goneC2_ok.k (gone1_ok.k (goneC4_ok.k (gone2_ok.k (holdCd_ok.k (holdD_ok.k g0))))))))))))))) (bD (by kernel_rfl) (lhc (by kernel_rfl) bAc rfl lsn)) (bFu loadF retireF setF nextF knownF goneC2F gone1F goneC4F gone2F holdDF dropL0F)
end Go.Ax.Cd
