/- Merged. -/
import Derived.Test.YthcfkplfmjcmoaaGreatDoorQ31
import Derived.Test.YthcfkplfmjcmoaaGreatDoorQ15
import Derived.Test.YthcfkplfmjcmoaaGreatDoorQ20
namespace Go.Ax.Cd
open Go.Proofs
set_option linter.unusedVariables false
set_option maxRecDepth 100000
noncomputable abbrev fuseL2E : He := ⟨2, Tryz.f196, 2, [2, 3, 6, 7, 8, 15], [vi, .s (.ptr 2 0), .s (.ptr 3 0), .s (.ptr 4 0), .s (.ptr 5 0), .s (.ptr 6 0)], [.box [.e (.st .cfg), .e (.sl .int), .own 1, .sln .int], .arr (.st .acc), .box [.ptr 0 0], .box [.e (.st .res)], .box [.ptr 0 0, .e .int, .e .int], .box [.ptr 0 0, .e .int, .e .int], .box [.ptr 0 0, .e .int, .e .int]], ((Fin.one 2 Tryz.f196.ntmps (.exit 4) [2, 3, 6, 8] [vi, .s (.ptr 2 0), .s (.ptr 3 0), .s (.ptr 4 0)] [.box [.e (.st .cfg), .e (.sl .int), .own 1, .sln .int], .arr (.st .acc), .box [.ptr 0 0], .box [.e (.st .res)], .box [.ptr 0 0, .e .int, .e .int]]).or (Fin.pan 2 188 (.agg []) machP)), Int → Cfg → List Int → List Int → Res → Int → Int → Int → Int → Int → Int → F (Unit), Unit, fun t x => t x.1.1 x.2.1.1 x.2.1.2.1 x.2.1.2.2.2.1 x.2.2.2.2.1.1 x.2.2.2.2.2.1.2.1 x.2.2.2.2.2.1.2.2.1 x.2.2.2.2.2.2.1.2.1 x.2.2.2.2.2.2.1.2.2.1 x.2.2.2.2.2.2.2.1.2.1 x.2.2.2.2.2.2.2.1.2.2.1, fun x a d K => K (Sum.inl (((x.1.1, (), (), (), ()), ((x.2.1.1, x.2.1.2.1, (), x.2.1.2.2.2.1, ()), d, ((), ()), (x.2.2.2.2.1.1, ()), ((), x.2.2.2.2.2.2.1.2.1, x.2.2.2.2.2.2.1.2.2.1, ()), ())))), fun x d => Sum.inr ((((), ()), ((x.2.1.1, x.2.1.2.1, (), (), ()), d, ()))), fun x => x.2.1.2.1, fun x => x.2.2.1, fun _ _ _ _ => rfl⟩
def aVx (x : fuseL2E.X) (s : Int) (d : List Acc) : fuseL2E.X := ((x.1.1, (), (), (), (), (), ()), ((x.2.1.1, x.2.1.2.1, (), x.2.1.2.2.2.1, ()), d, ((), ()), (x.2.2.2.2.1.1, ()), ((), x.2.2.2.2.2.1.2.1, x.2.2.2.2.2.1.2.2.1, ()), ((), x.2.2.2.2.2.2.1.2.1, x.2.2.2.2.2.2.1.2.2.1, ()), ((), x.2.2.2.2.2.2.2.1.2.1, s, ()), ()))
def aAl (p0 : loadE.T) (p1 : storeE.T) (p2 : retireE.T) (p3 : nextE.T) (p4 : walkFE.T) (v0 : Int) (c : Cfg) (got held : List Int) (v12 : Res) (v14 v15 v17 v18 v20 st : Int) : F ((Int) ⊕ (Unit)) :=
 let v21 := st; 
 .ite (!v21 == 0) ((p0 v20 v21 0 c got held).bind fun x1 =>
 (p3 v20 v21 2 c got held).bind fun x2 =>
 (p0 v14 v15 3 c got held).bind fun x3 =>
 (p4 3 x3 c got held x1).bind fun x5 =>
 .ite (x5) ((p2 v20 v21 c got held).bind fun _ =>
 .ret (Sum.inl x2))
 ((p1 v20 v21 2 x3 c got held).bind fun _ =>
 (p1 v14 v15 3 v21 c got held).bind fun _ =>
 .ret (Sum.inl x2)))
 (.ret (Sum.inr ()))
abbrev aDa (v0 : Int) (c : Cfg) (got held : List Int) (v12 : Res) (v14 v15 v17 v18 v20 st : Int) := (aAl loadF storeF retireF nextF walkFF v0 c got held v12 v14 v15 v17 v18 v20 st).tree
def fuseL2F : fuseL2E.LT := fun v0 c got held v12 v14 v15 v17 v18 v20 s0 => .tr (T.loop (aDa v0 c got held v12 v14 v15 v17 v18 v20) (got.length + 10) s0)
theorem aSu (p0 : loadE.T) (p1 : storeE.T) (p2 : retireE.T) (p3 : nextE.T) (p4 : walkFE.T) (x) : fuseL2E.run [nodeAtE.on nodeAtN, loadE.on p0, storeE.on p1, retireE.on p2, setE.on setF, nextE.on p3, edgeE.on edgeF, propE.on propF, noneE.on noneF, failedE.on failedN, knownE.on knownF, walkFE.on p4, holdFE.on holdFF] [] [] x = fuseL2E.go1 aVx (aAl p0 p1 p2 p3 p4 x.1.1 x.2.1.1 x.2.1.2.1 x.2.1.2.2.2.1 x.2.2.2.2.1.1 x.2.2.2.2.2.1.2.1 x.2.2.2.2.2.1.2.2.1 x.2.2.2.2.2.2.1.2.1 x.2.2.2.2.2.2.1.2.2.1 x.2.2.2.2.2.2.2.1.2.1 x.2.2.2.2.2.2.2.1.2.2.1) x := by kernel_rfl
theorem bAd : fuseL2E.Ok fuseL2F := He.k aVx (fun x => x.2.2.2.2.2.2.2.1.2.2.1) (fun x s => aAl loadF storeF retireF nextF walkFF x.1.1 x.2.1.1 x.2.1.2.1 x.2.1.2.2.2.1 x.2.2.2.2.1.1 x.2.2.2.2.2.1.2.1 x.2.2.2.2.2.1.2.2.1 x.2.2.2.2.2.2.1.2.1 x.2.2.2.2.2.2.1.2.2.1 x.2.2.2.2.2.2.2.1.2.1 s) (fo f1 fp) (nodeAt_ok.k (load_ok.k (store_ok.k (retire_ok.k (set_ok.k (next_ok.k (edge_ok.k (prop_ok.k (none_ok.k (failed_ok.k (known_ok.k (walkF_ok.k (holdF_ok.k g0))))))))))))) (aA (by kernel_rfl)) (aSu loadF storeF retireF nextF walkFF) (fun _ => rfl) (fun _ => rfl) (fun _ _ _ => rfl) (fun _ _ _ => ⟨rfl, rfl⟩)
noncomputable abbrev fuseL1E : He := ⟨2, Tryz.f196, 1, [2, 3, 4, 6, 7, 8, 11, 12, 13, 14, 43, 44], [vi, .s (.ptr 2 0), .s (.ptr 3 0), .s (.ptr 4 0), .s (.ptr 5 0), .s (.ptr 6 0), .s (.ptr 7 0), .s (.ptr 8 0), .s (.ptr 9 0), .s (.ptr 10 0), .agg [.e .int, .e .int, .e .int, .e .int, .e .int, .e .int, .e .int, .e .int], vi], [.box [.e (.st .cfg), .e (.sl .int), .own 1, .sln .int], .arr (.st .acc), .box [.ptr 0 0], .box [.e .int], .box [.e (.st .res)], .box [.ptr 0 0, .e .int, .e .int], .box [.ptr 0 0, .e .int, .e .int], .box [.e (.st .sid)], .box [.ptr 0 0, .e .int, .e .int], .box [.ptr 0 0, .e .int, .e .int], .box [.ptr 0 0, .e .int, .e .int]], ((Fin.one 2 Tryz.f196.ntmps (.exit 2) [2, 3, 4, 6, 7, 8, 11, 12, 13, 43, 44] [vi, .s (.ptr 2 0), .s (.ptr 3 0), .s (.ptr 4 0), .s (.ptr 5 0), .s (.ptr 6 0), .s (.ptr 7 0), .s (.ptr 8 0), .s (.ptr 9 0), .agg [.e .int, .e .int, .e .int, .e .int, .e .int, .e .int, .e .int, .e .int], vi] [.box [.e (.st .cfg), .e (.sl .int), .own 1, .sln .int], .arr (.st .acc), .box [.ptr 0 0], .box [.e .int], .box [.e (.st .res)], .box [.ptr 0 0, .e .int, .e .int], .box [.ptr 0 0, .e .int, .e .int], .box [.e (.st .sid)], .box [.ptr 0 0, .e .int, .e .int], .box [.ptr 0 0, .e .int, .e .int]]).or (Fin.pan 2 188 (.agg []) machP)), Int → Int → Int → Int → Int → Int → Int → Int → Int → Int → Cfg → List Int → List Int → Int → Res → Int → Int → Int → Int → Sid → Int → Int → Int → Int → Int → Int → F (Int × Int × Int × Int), Int × Int × Int × Int, fun t x => t x.1.1 x.1.2.2.2.2.2.2.2.2.2.2.1.1 x.1.2.2.2.2.2.2.2.2.2.2.1.2.1 x.1.2.2.2.2.2.2.2.2.2.2.1.2.2.1 x.1.2.2.2.2.2.2.2.2.2.2.1.2.2.2.1 x.1.2.2.2.2.2.2.2.2.2.2.1.2.2.2.2.1 x.1.2.2.2.2.2.2.2.2.2.2.1.2.2.2.2.2.1 x.1.2.2.2.2.2.2.2.2.2.2.1.2.2.2.2.2.2.1 x.1.2.2.2.2.2.2.2.2.2.2.1.2.2.2.2.2.2.2.1 x.1.2.2.2.2.2.2.2.2.2.2.2.1 x.2.1.1 x.2.1.2.1 x.2.1.2.2.2.1 x.2.2.2.2.1.1 x.2.2.2.2.2.1.1 x.2.2.2.2.2.2.1.2.1 x.2.2.2.2.2.2.1.2.2.1 x.2.2.2.2.2.2.2.1.2.1 x.2.2.2.2.2.2.2.1.2.2.1 x.2.2.2.2.2.2.2.2.1.1 x.2.2.2.2.2.2.2.2.2.2.2.1.2.1 x.2.2.2.2.2.2.2.2.2.1.2.1 x.2.2.2.2.2.2.2.2.2.1.2.2.1 x.2.2.2.2.2.2.2.2.2.2.1.2.1 x.2.2.2.2.2.2.2.2.2.2.1.2.2.1 x.2.2.2.2.2.2.2.2.2.2.2.1.2.2.1, fun x a d K => K (Sum.inl (((x.1.1, (), (), (), (), (), (), (), (), (x.1.2.2.2.2.2.2.2.2.2.2.1.1, x.1.2.2.2.2.2.2.2.2.2.2.1.2.1, x.1.2.2.2.2.2.2.2.2.2.2.1.2.2.1, x.1.2.2.2.2.2.2.2.2.2.2.1.2.2.2.1, x.1.2.2.2.2.2.2.2.2.2.2.1.2.2.2.2.1, x.1.2.2.2.2.2.2.2.2.2.2.1.2.2.2.2.2.1, x.1.2.2.2.2.2.2.2.2.2.2.1.2.2.2.2.2.2.1, x.1.2.2.2.2.2.2.2.2.2.2.1.2.2.2.2.2.2.2.1, ()), x.1.2.2.2.2.2.2.2.2.2.2.2.1, ()), ((x.2.1.1, x.2.1.2.1, (), x.2.1.2.2.2.1, ()), d, ((), ()), (x.2.2.2.2.1.1, ()), (x.2.2.2.2.2.1.1, ()), ((), x.2.2.2.2.2.2.1.2.1, x.2.2.2.2.2.2.1.2.2.1, ()), ((), x.2.2.2.2.2.2.2.1.2.1, x.2.2.2.2.2.2.2.1.2.2.1, ()), (x.2.2.2.2.2.2.2.2.1.1, ()), ((), a.1, a.2.1, ()), ((), a.2.2.1, a.2.2.2, ()), ())))), fun x d => Sum.inr ((((), ()), ((x.2.1.1, x.2.1.2.1, (), (), ()), d, ()))), fun x => x.2.1.2.1, fun x => x.2.2.1, fun _ _ _ _ => rfl⟩
def aVy (x : fuseL1E.X) (s : Int × Int × Int × Int × Int) (d : List Acc) : fuseL1E.X := ((x.1.1, (), (), (), (), (), (), (), (), (), (x.1.2.2.2.2.2.2.2.2.2.2.1.1, x.1.2.2.2.2.2.2.2.2.2.2.1.2.1, x.1.2.2.2.2.2.2.2.2.2.2.1.2.2.1, x.1.2.2.2.2.2.2.2.2.2.2.1.2.2.2.1, x.1.2.2.2.2.2.2.2.2.2.2.1.2.2.2.2.1, x.1.2.2.2.2.2.2.2.2.2.2.1.2.2.2.2.2.1, x.1.2.2.2.2.2.2.2.2.2.2.1.2.2.2.2.2.2.1, x.1.2.2.2.2.2.2.2.2.2.2.1.2.2.2.2.2.2.2.1, ()), x.1.2.2.2.2.2.2.2.2.2.2.2.1, ()), ((x.2.1.1, x.2.1.2.1, (), x.2.1.2.2.2.1, ()), d, ((), ()), (x.2.2.2.2.1.1, ()), (x.2.2.2.2.2.1.1, ()), ((), x.2.2.2.2.2.2.1.2.1, x.2.2.2.2.2.2.1.2.2.1, ()), ((), x.2.2.2.2.2.2.2.1.2.1, x.2.2.2.2.2.2.2.1.2.2.1, ()), (x.2.2.2.2.2.2.2.2.1.1, ()), ((), s.1, s.2.1, ()), ((), s.2.2.1, s.2.2.2.1, ()), ((), x.2.2.2.2.2.2.2.2.2.2.2.1.2.1, s.2.2.2.2, ()), ()))
def aAm (p0 : storeE.T) (p1 : nextE.T) (v0 v10 v11 v12 v13 v14 v15 v16 v17 v18 : Int) (c : Cfg) (got held : List Int) (v25 : Int) (v26 : Res) (v28 v29 v31 v32 : Int) (v33 : Sid) (v41 : Int) (st : Int × Int × Int × Int × Int) : F ((Int × Int × Int × Int × Int) ⊕ (Int × Int × Int × Int)) :=
 let v35 := st.1; let v36 := st.2.1; let v38 := st.2.2.1; let v39 := st.2.2.2.1; let v42 := st.2.2.2.2; 
 .ite (!v42 == 0) (.ite (v36 == 0) ((p0 v41 v42 v33.own v25 c got held).bind fun _ =>
 (p1 v41 v42 v33.link c got held).bind fun x3 =>
 .ret (Sum.inl (v41, v42, v41, v42, x3)))
 ((p0 v41 v42 v33.own v25 c got held).bind fun _ =>
 (p1 v41 v42 v33.link c got held).bind fun x3 =>
 .ret (Sum.inl (v35, v36, v41, v42, x3))))
 (.ret (Sum.inr (v35, v36, v38, v39)))
abbrev aDb (v0 v10 v11 v12 v13 v14 v15 v16 v17 v18 : Int) (c : Cfg) (got held : List Int) (v25 : Int) (v26 : Res) (v28 v29 v31 v32 : Int) (v33 : Sid) (v41 : Int) (st : Int × Int × Int × Int × Int) := (aAm storeF nextF v0 v10 v11 v12 v13 v14 v15 v16 v17 v18 c got held v25 v26 v28 v29 v31 v32 v33 v41 st).tree
def fuseL1F : fuseL1E.LT := fun v0 v10 v11 v12 v13 v14 v15 v16 v17 v18 c got held v25 v26 v28 v29 v31 v32 v33 v41 s0 s1 s2 s3 s4 => .tr (T.loop (aDb v0 v10 v11 v12 v13 v14 v15 v16 v17 v18 c got held v25 v26 v28 v29 v31 v32 v33 v41) (got.length + 10) (s0, s1, s2, s3, s4))
theorem aSv (p0 : storeE.T) (p1 : nextE.T) (x) : fuseL1E.run [nodeAtE.on nodeAtN, loadE.on loadF, storeE.on p0, retireE.on retireF, setE.on setF, nextE.on p1, edgeE.on edgeF, propE.on propF, noneE.on noneF, failedE.on failedN, knownE.on knownF, walkFE.on walkFF, holdFE.on holdFF] [] [] x = fuseL1E.go1 aVy (aAm p0 p1 x.1.1 x.1.2.2.2.2.2.2.2.2.2.2.1.1 x.1.2.2.2.2.2.2.2.2.2.2.1.2.1 x.1.2.2.2.2.2.2.2.2.2.2.1.2.2.1 x.1.2.2.2.2.2.2.2.2.2.2.1.2.2.2.1 x.1.2.2.2.2.2.2.2.2.2.2.1.2.2.2.2.1 x.1.2.2.2.2.2.2.2.2.2.2.1.2.2.2.2.2.1 x.1.2.2.2.2.2.2.2.2.2.2.1.2.2.2.2.2.2.1 x.1.2.2.2.2.2.2.2.2.2.2.1.2.2.2.2.2.2.2.1 x.1.2.2.2.2.2.2.2.2.2.2.2.1 x.2.1.1 x.2.1.2.1 x.2.1.2.2.2.1 x.2.2.2.2.1.1 x.2.2.2.2.2.1.1 x.2.2.2.2.2.2.1.2.1 x.2.2.2.2.2.2.1.2.2.1 x.2.2.2.2.2.2.2.1.2.1 x.2.2.2.2.2.2.2.1.2.2.1 x.2.2.2.2.2.2.2.2.1.1 x.2.2.2.2.2.2.2.2.2.2.2.1.2.1 (x.2.2.2.2.2.2.2.2.2.1.2.1, x.2.2.2.2.2.2.2.2.2.1.2.2.1, x.2.2.2.2.2.2.2.2.2.2.1.2.1, x.2.2.2.2.2.2.2.2.2.2.1.2.2.1, x.2.2.2.2.2.2.2.2.2.2.2.1.2.2.1)) x := by kernel_rfl
theorem aFo : fuseL1E.Ok fuseL1F := He.k aVy (fun x => (x.2.2.2.2.2.2.2.2.2.1.2.1, x.2.2.2.2.2.2.2.2.2.1.2.2.1, x.2.2.2.2.2.2.2.2.2.2.1.2.1, x.2.2.2.2.2.2.2.2.2.2.1.2.2.1, x.2.2.2.2.2.2.2.2.2.2.2.1.2.2.1)) (fun x s => aAm storeF nextF x.1.1 x.1.2.2.2.2.2.2.2.2.2.2.1.1 x.1.2.2.2.2.2.2.2.2.2.2.1.2.1 x.1.2.2.2.2.2.2.2.2.2.2.1.2.2.1 x.1.2.2.2.2.2.2.2.2.2.2.1.2.2.2.1 x.1.2.2.2.2.2.2.2.2.2.2.1.2.2.2.2.1 x.1.2.2.2.2.2.2.2.2.2.2.1.2.2.2.2.2.1 x.1.2.2.2.2.2.2.2.2.2.2.1.2.2.2.2.2.2.1 x.1.2.2.2.2.2.2.2.2.2.2.1.2.2.2.2.2.2.2.1 x.1.2.2.2.2.2.2.2.2.2.2.2.1 x.2.1.1 x.2.1.2.1 x.2.1.2.2.2.1 x.2.2.2.2.1.1 x.2.2.2.2.2.1.1 x.2.2.2.2.2.2.1.2.1 x.2.2.2.2.2.2.1.2.2.1 x.2.2.2.2.2.2.2.1.2.1 x.2.2.2.2.2.2.2.1.2.2.1 x.2.2.2.2.2.2.2.2.1.1 x.2.2.2.2.2.2.2.2.2.2.2.1.2.1 s) (fo f1 fp) (nodeAt_ok.k (load_ok.k (store_ok.k (retire_ok.k (set_ok.k (next_ok.k (edge_ok.k (prop_ok.k (none_ok.k (failed_ok.k (known_ok.k (walkF_ok.k (holdF_ok.k g0))))))))))))) (aA (by kernel_rfl)) (aSv storeF nextF) (fun _ => rfl) (fun _ => rfl) (fun _ _ _ => rfl) (fun _ _ _ => ⟨rfl, rfl⟩)
noncomputable abbrev fuseL0E : He := ⟨2, Tryz.f196, 0, [2, 3, 4, 6, 7, 8, 43, 44], [vi, .s (.ptr 2 0), .s (.ptr 3 0), .s (.ptr 4 0), .s (.ptr 5 0), .s (.ptr 6 0), .agg [.e .int, .e .int, .e .int, .e .int, .e .int, .e .int, .e .int, .e .int], vi], [.box [.e (.st .cfg), .e (.sl .int), .own 1, .sln .int], .arr (.st .acc), .box [.ptr 0 0], .box [.e .int], .box [.e (.st .res)], .box [.ptr 0 0, .e .int, .e .int], .box [.ptr 0 0, .e .int, .e .int]], ((Fin.one 2 Tryz.f196.ntmps (.exit 0) [2, 3, 6, 7, 8] [vi, .s (.ptr 2 0), .s (.ptr 3 0), .s (.ptr 4 0), .s (.ptr 5 0)] [.box [.e (.st .cfg), .e (.sl .int), .own 1, .sln .int], .arr (.st .acc), .box [.ptr 0 0], .box [.e (.st .res)], .box [.ptr 0 0, .e .int, .e .int], .box [.ptr 0 0, .e .int, .e .int]]).or (Fin.pan 2 188 (.agg []) machP)), Int → Int → Int → Int → Int → Int → Int → Int → Int → Cfg → List Int → List Int → Int → Res → Int → Int → Int → Int → Int → F (Unit), Unit, fun t x => t x.1.1 x.1.2.2.2.2.2.2.1.1 x.1.2.2.2.2.2.2.1.2.1 x.1.2.2.2.2.2.2.1.2.2.1 x.1.2.2.2.2.2.2.1.2.2.2.1 x.1.2.2.2.2.2.2.1.2.2.2.2.1 x.1.2.2.2.2.2.2.1.2.2.2.2.2.1 x.1.2.2.2.2.2.2.1.2.2.2.2.2.2.1 x.1.2.2.2.2.2.2.1.2.2.2.2.2.2.2.1 x.2.1.1 x.2.1.2.1 x.2.1.2.2.2.1 x.2.2.2.2.1.1 x.2.2.2.2.2.1.1 x.2.2.2.2.2.2.1.2.1 x.2.2.2.2.2.2.1.2.2.1 x.2.2.2.2.2.2.2.1.2.1 x.2.2.2.2.2.2.2.1.2.2.1 x.1.2.2.2.2.2.2.2.1, fun x a d K => K (Sum.inl (((x.1.1, (), (), (), (), ()), ((x.2.1.1, x.2.1.2.1, (), x.2.1.2.2.2.1, ()), d, ((), ()), (x.2.2.2.2.2.1.1, ()), ((), x.2.2.2.2.2.2.1.2.1, x.2.2.2.2.2.2.1.2.2.1, ()), ((), x.2.2.2.2.2.2.2.1.2.1, x.2.2.2.2.2.2.2.1.2.2.1, ()), ())))), fun x d => Sum.inr ((((), ()), ((x.2.1.1, x.2.1.2.1, (), (), ()), d, ()))), fun x => x.2.1.2.1, fun x => x.2.2.1, fun _ _ _ _ => rfl⟩
def aVz (x : fuseL0E.X) (s : Int) (d : List Acc) : fuseL0E.X := ((x.1.1, (), (), (), (), (), (x.1.2.2.2.2.2.2.1.1, x.1.2.2.2.2.2.2.1.2.1, x.1.2.2.2.2.2.2.1.2.2.1, x.1.2.2.2.2.2.2.1.2.2.2.1, x.1.2.2.2.2.2.2.1.2.2.2.2.1, x.1.2.2.2.2.2.2.1.2.2.2.2.2.1, x.1.2.2.2.2.2.2.1.2.2.2.2.2.2.1, x.1.2.2.2.2.2.2.1.2.2.2.2.2.2.2.1, ()), s, ()), ((x.2.1.1, x.2.1.2.1, (), x.2.1.2.2.2.1, ()), d, ((), ()), (x.2.2.2.2.1.1, ()), (x.2.2.2.2.2.1.1, ()), ((), x.2.2.2.2.2.2.1.2.1, x.2.2.2.2.2.2.1.2.2.1, ()), ((), x.2.2.2.2.2.2.2.1.2.1, x.2.2.2.2.2.2.2.1.2.2.1, ()), ()))
def aAn (p0 : loadE.T) (p1 : storeE.T) (p2 : fuseL1E.LT) (v0 v6 v7 v8 v9 v10 v11 v12 v13 : Int) (c : Cfg) (got held : List Int) (v21 : Int) (v22 : Res) (v24 v25 v27 v28 st : Int) : F ((Int) ⊕ (Unit)) :=
 let v14 := st; 
 .ite (decide (v14 < 2)) (.ite (inR v14 2) ((p0 v27 v28 (rdE EK.int [v6, v10] v14) c got held).bind fun x2 =>
 (p2 v0 v6 v7 v8 v9 v10 v11 v12 v13 v14 c got held v21 v22 v24 v25 v27 v28 (Sid.mk (rdE EK.int [v6, v10] v14) (rdE EK.int [v7, v11] v14) (rdE EK.int [v8, v12] v14) (rdE EK.int [v9, v13] v14)) 2 2 0 2 0 x2).bind fun x4 =>
 .ite (!x4.2.1 == 0) ((p0 v24 v25 (rdE EK.int [v6, v10] v14) c got held).bind fun x6 =>
 (p1 x4.2.2.1 x4.2.2.2 (rdE EK.int [v7, v11] v14) x6 c got held).bind fun _ =>
 (p1 v24 v25 (rdE EK.int [v6, v10] v14) x4.2.1 c got held).bind fun _ =>
 .ret (Sum.inl (w64 (v14 + 1))))
 (.ret (Sum.inl (w64 (v14 + 1)))))
 (.tr .bot))
 (.ret (Sum.inr ()))
abbrev aDc (v0 v6 v7 v8 v9 v10 v11 v12 v13 : Int) (c : Cfg) (got held : List Int) (v21 : Int) (v22 : Res) (v24 v25 v27 v28 st : Int) := (aAn loadF storeF fuseL1F v0 v6 v7 v8 v9 v10 v11 v12 v13 c got held v21 v22 v24 v25 v27 v28 st).tree
def fuseL0F : fuseL0E.LT := fun v0 v6 v7 v8 v9 v10 v11 v12 v13 c got held v21 v22 v24 v25 v27 v28 s0 => .tr (T.loop (aDc v0 v6 v7 v8 v9 v10 v11 v12 v13 c got held v21 v22 v24 v25 v27 v28) (got.length + 10) s0)
theorem aSw (p0 : loadE.T) (p1 : storeE.T) (p2 : fuseL1E.LT) (x) : fuseL0E.run [nodeAtE.on nodeAtN, loadE.on p0, storeE.on p1, retireE.on retireF, setE.on setF, nextE.on nextF, edgeE.on edgeF, propE.on propF, noneE.on noneF, failedE.on failedN, knownE.on knownF, walkFE.on walkFF, holdFE.on holdFF] [(14, fuseL1E.on p2)] [] x = fuseL0E.go1 aVz (aAn p0 p1 p2 x.1.1 x.1.2.2.2.2.2.2.1.1 x.1.2.2.2.2.2.2.1.2.1 x.1.2.2.2.2.2.2.1.2.2.1 x.1.2.2.2.2.2.2.1.2.2.2.1 x.1.2.2.2.2.2.2.1.2.2.2.2.1 x.1.2.2.2.2.2.2.1.2.2.2.2.2.1 x.1.2.2.2.2.2.2.1.2.2.2.2.2.2.1 x.1.2.2.2.2.2.2.1.2.2.2.2.2.2.2.1 x.2.1.1 x.2.1.2.1 x.2.1.2.2.2.1 x.2.2.2.2.1.1 x.2.2.2.2.2.1.1 x.2.2.2.2.2.2.1.2.1 x.2.2.2.2.2.2.1.2.2.1 x.2.2.2.2.2.2.2.1.2.1 x.2.2.2.2.2.2.2.1.2.2.1 x.1.2.2.2.2.2.2.2.1) x := by kernel_rfl
theorem bAe : fuseL0E.Ok fuseL0F := He.k aVz (fun x => x.1.2.2.2.2.2.2.2.1) (fun x s => aAn loadF storeF fuseL1F x.1.1 x.1.2.2.2.2.2.2.1.1 x.1.2.2.2.2.2.2.1.2.1 x.1.2.2.2.2.2.2.1.2.2.1 x.1.2.2.2.2.2.2.1.2.2.2.1 x.1.2.2.2.2.2.2.1.2.2.2.2.1 x.1.2.2.2.2.2.2.1.2.2.2.2.2.1 x.1.2.2.2.2.2.2.1.2.2.2.2.2.2.1 x.1.2.2.2.2.2.2.1.2.2.2.2.2.2.2.1 x.2.1.1 x.2.1.2.1 x.2.1.2.2.2.1 x.2.2.2.2.1.1 x.2.2.2.2.2.1.1 x.2.2.2.2.2.2.1.2.1 x.2.2.2.2.2.2.1.2.2.1 x.2.2.2.2.2.2.2.1.2.1 x.2.2.2.2.2.2.2.1.2.2.1 s) (fo f1 fp) (nodeAt_ok.k (load_ok.k (store_ok.k (retire_ok.k (set_ok.k (next_ok.k (edge_ok.k (prop_ok.k (none_ok.k (failed_ok.k (known_ok.k (walkF_ok.k (holdF_ok.k g0))))))))))))) (bD (by kernel_rfl) (lhc (by kernel_rfl) aFo rfl lsn)) (aSw loadF storeF fuseL1F) (fun _ => rfl) (fun _ => rfl) (fun _ _ _ => rfl) (fun _ _ _ => ⟨rfl, rfl⟩)
noncomputable abbrev fuseE : Ge := ⟨196, Tryz.f196, [pm, vi, vi], mach, [.s (.e (.st .res))], mach, machP, Res × List Int, fun x a d => ((a.1, ()), ((x.2.1.1, x.2.1.2.1, (), a.2, ()), d, ())), fun o d => ((o.1.1, o.1.2.1, (), (), ()), d, ()), fun o => o.1.2.1, fun o => o.2.1⟩
def bKp (p0 : loadE.T) (p1 : storeE.T) (p2 : retireE.T) (p3 : setE.T) (p4 : nextE.T) (p5 : knownE.T) (p6 : walkFE.T) (p7 : holdFE.T) (p8 : fuseL1E.LT) (p9 : fuseL0E.LT) (p10 : fuseL2E.LT) (a b : Int) (c : Cfg) (got held : List Int) : F (Res × List Int) :=
 .ite (a == b) (.ret (Res.mk 5 0 [] [] [], held))
 ((p5 [a, b] c got held).bind fun x0 =>
 .ite (!x0) (.ret (Res.mk 2 0 [] [] [], held))
 ((p7 b [a, b] c got held a 0 0).bind fun b1 => .sel b1 (fun x1 => .ite (!x1.2.1) (.ret (Res.mk 2 0 [] [] [], x1.2.2.1))
 ((p9 b 1 3 1 2 2 4 2 1 c got x1.2.2.1 a (Res.mk 0 0 [] [] []) 1 x1.2.2.2 1 x1.1 0).bind fun _ =>
 (p0 1 x1.1 3 c got x1.2.2.1).bind fun x3 =>
 (p10 b c got x1.2.2.1 (Res.mk 0 0 [] [] []) 1 x1.2.2.2 1 x1.1 3 x3).bind fun _ =>
 (p3 (w64 (b + 1)) 0 c got x1.2.2.1).bind fun _ =>
 (p2 1 x1.1 c got x1.2.2.1).bind fun _ =>
 .ret (Res.mk 0 0 [] [] [], x1.2.2.1)))
 (fun y1 => .ret (Res.mk 2 0 [] [] [], y1.2.1))))
def fuseF : fuseE.T := bKp loadF storeF retireF setF nextF knownF walkFF holdFF fuseL1F fuseL0F fuseL2F
abbrev bFv (a b : Int) (c : Cfg) (got held : List Int) := (fuseF a b c got held).tree
theorem bFw (p0 : loadE.T) (p1 : storeE.T) (p2 : retireE.T) (p3 : setE.T) (p4 : nextE.T) (p5 : knownE.T) (p6 : walkFE.T) (p7 : holdFE.T) (p8 : fuseL1E.LT) (p9 : fuseL0E.LT) (p10 : fuseL2E.LT) (x) : fuseE.run [nodeAtE.on nodeAtN, loadE.on p0, storeE.on p1, retireE.on p2, setE.on p3, nextE.on p4, edgeE.on edgeF, propE.on propF, noneE.on noneF, failedE.on failedN, knownE.on p5, walkFE.on p6, holdFE.on p7] [(14, fuseL1E.on p8), (10, fuseL0E.on p9), (27, fuseL2E.on p10)] [] x = fuseE.go (bKp p0 p1 p2 p3 p4 p5 p6 p7 p8 p9 p10) x some := by kernel_rfl
theorem fuse_ok : fuseE.Ok fuseF := Ge.k (by kernel_rfl) (nodeAt_ok.k (load_ok.k (store_ok.k (retire_ok.k (set_ok.k (next_ok.k (edge_ok.k (prop_ok.k (none_ok.k (failed_ok.k (known_ok.k (walkF_ok.k (holdF_ok.k g0))))))))))))) (bD (by kernel_rfl) (lhc (by kernel_rfl) bAe rfl (lhc (by kernel_rfl) aFo rfl (lhc (by kernel_rfl) bAd rfl lsn)))) (bFw loadF storeF retireF setF nextF knownF walkFF holdFF fuseL1F fuseL0F fuseL2F)
noncomputable abbrev programE : Ge := ⟨140, Tryz.f140, [pm, .s (.e (.st .opn))], mach, [.s (.e (.st .res))], mach, machP, Res × List Int, fun x a d => ((a.1, ()), ((x.2.1.1, x.2.1.2.1, (), a.2, ()), d, ())), fun o d => ((o.1.1, o.1.2.1, (), (), ()), d, ()), fun o => o.1.2.1, fun o => o.2.1⟩
def aNf (p0 : addE.T) (p1 : linkE.T) (p2 : cutE.T) (p3 : setPropE.T) (p4 : delPropE.T) (p5 : lookPE.T) (p6 : lookNE.T) (p7 : dropE.T) (p8 : fuseE.T) (o : Opn) (c : Cfg) (got held : List Int) : F (Res × List Int) :=
 .ite (o.kind == 1) ((p0 c got held).bind fun x0 =>
 .ret (x0.1, x0.2))
 (.ite (o.kind == 2) ((p1 o.a o.b c got held).bind fun x0 =>
 .ret (x0.1, x0.2))
 (.ite (o.kind == 3) ((p2 o.a c got held).bind fun x0 =>
 .ret (x0.1, x0.2))
 (.ite (o.kind == 4) ((p3 o.a o.k o.v c got held).bind fun x0 =>
 .ret (x0.1, x0.2))
 (.ite (o.kind == 5) ((p4 o.a o.k c got held).bind fun x0 =>
 .ret (x0.1, x0.2))
 (.ite (o.kind == 6) ((p5 o.a c got held).bind fun x0 =>
 .ret (x0, held))
 (.ite (o.kind == 7) ((p6 o.a c got held).bind fun x0 =>
 .ret (x0, held))
 (.ite (o.kind == 8) ((p7 o.a c got held).bind fun x0 =>
 .ret (x0.1, x0.2))
 (.ite (o.kind == 9) ((p8 o.a o.b c got held).bind fun x0 =>
 .ret (x0.1, x0.2))
 (.ret (Res.mk 1 0 [] [] [], held))))))))))
def programF : programE.T := aNf addF linkF cutF setPropF delPropF lookPF lookNF dropF fuseF
abbrev aFp (o : Opn) (c : Cfg) (got held : List Int) := (programF o c got held).tree
theorem aNg (p0 : addE.T) (p1 : linkE.T) (p2 : cutE.T) (p3 : setPropE.T) (p4 : delPropE.T) (p5 : lookPE.T) (p6 : lookNE.T) (p7 : dropE.T) (p8 : fuseE.T) (x) : programE.run [failedE.on failedN, addE.on p0, linkE.on p1, cutE.on p2, setPropE.on p3, delPropE.on p4, lookPE.on p5, lookNE.on p6, dropE.on p7, fuseE.on p8] [] [] x = programE.go (aNf p0 p1 p2 p3 p4 p5 p6 p7 p8) x some := by kernel_rfl
theorem program_ok : programE.Ok programF := Ge.k (by kernel_rfl) (failed_ok.k (add_ok.k (link_ok.k (cut_ok.k (setProp_ok.k (delProp_ok.k (lookP_ok.k (lookN_ok.k (drop_ok.k (fuse_ok.k g0)))))))))) (aA (by kernel_rfl)) (aNg addF linkF cutF setPropF delPropF lookPF lookNF dropF fuseF)
instance (x : Int) : Decidable (aM x) := by unfold aM; infer_instance
theorem bFx (n : Int) : aM (w64 n) := by
 unfold w64
 rw [IntKind.wrap_i64]
 constructor <;> omega
abbrev RS := Bool × List Int
def bQ (ro : Bool) (s : RS) (a : Acc) : Option RS :=
 if a.kind = 3 then some s
 else if a.kind = 7 then (if s.2 = [] then some s else none)
 else if a.kind = 5 then (match s.2 with
  | [] => some (false, [a.at_])
  | t :: r => if s.1 = false ∧ t < a.at_ then some (false, a.at_ :: t :: r) else none)
 else if a.kind = 6 then (match s.2 with
  | [] => none
  | t :: r => if t = a.at_ then some (true, r) else none)
 else if a.kind = 4 then (if ro = false ∧ s.2 ≠ [] ∧ aM a.value then some s else none)
 else if a.kind = 8 ∨ a.kind = 9 then (if ro = false ∧ s.2 ≠ [] then some s else none)
 else none
section
variable {N : Nat} {ro : Bool} {n : Nat} {s : RS} {c : Cfg} {got held : List Int}
theorem oX {α : Type} {a : Acc} {s' : RS} {f : Int → α} {Q : Nat → RS → α → Prop} (h : bQ ro s a = some s') (hq : n < N → ∀ x, aM x → Q (n + 1) s' (f x)) : ((T.ask a T.ret).bind fun x => .ret (f x)).sat N (bQ ro) n s Q := ⟨s', h, hq⟩
theorem aI {w r f : Int} {Q : Nat → RS → Int → Prop} (hq : n < N → ∀ x, aM x → Q (n + 1) s x) : (bLp w r f c got held).sat N (bQ ro) n s Q := oX (s' := s) (by simp [bQ]) hq
theorem gW {w : Int} {Q : Nat → RS → Int → Prop} (hq : n < N → ∀ x, aM x → Q (n + 1) s x) : (bLq w c got held).sat N (bQ ro) n s Q := oX (s' := s) (by simp [bQ]) hq
theorem bG {w r f : Int} {Q : Nat → RS → Int → Prop} (hq : n < N → ∀ x, aM x → Q (n + 1) s x) : (bLs w r f c got held).sat N (bQ ro) n s Q := T.sat_bind (aI hq)
theorem cA {w : Int} {Q : Nat → RS → Int → Prop} (hq : n < N → ∀ x, aM x → Q (n + 1) s x) : (bLt w c got held).sat N (bQ ro) n s Q := T.sat_bind (gW hq)
theorem aAo {w : Int} {Q : Nat → RS → Int → Prop} (hs : s.2 = []) (hq : n < N → ∀ x, aM x → Q (n + 1) s x) : (bNa w c got held).sat N (bQ ro) n s Q := oX (s' := s) (by simp [bQ, hs]) hq
def Wr (ro : Bool) (s : RS) : Prop := ro = false ∧ s.2 ≠ []
theorem bJ {w r f v : Int} {Q : Nat → RS → Unit → Prop} (hs : Wr ro s) (hq : n < N → Q (n + 1) s ()) (hv : aM v := by first | assumption|exact bFx _|exact ⟨by decide, by decide⟩) : (bIl w r f v c got held).sat N (bQ ro) n s Q := oX (f := fun _ => ()) (s' := s) (by simp [bQ, hs.1, hs.2, hv]) (fun h _ _ => hq h)
theorem lN {w v : Int} {Q : Nat → RS → Unit → Prop} (hs : Wr ro s) (hq : n < N → Q (n + 1) s ()) (hv : aM v := by first | assumption|exact bFx _|exact ⟨by decide, by decide⟩) : (bNb w v c got held).sat N (bQ ro) n s Q := oX (f := fun _ => ()) (s' := s) (by simp [bQ, hs.1, hs.2, hv]) (fun h _ _ => hq h)
theorem cC {w r : Int} {Q : Nat → RS → Unit → Prop} (hs : Wr ro s) (hq : n < N → Q (n + 1) s ()) : (bEi w r c got held).sat N (bQ ro) n s Q := oX (f := fun _ => ()) (s' := s) (by simp [bQ, hs.1, hs.2]) (fun h _ _ => hq h)
theorem mN {w : Int} {Q : Nat → RS → Int → Prop} (hs : Wr ro s) (hq : n < N → ∀ x, aM x → Q (n + 1) s x) : (bLr w c got held).sat N (bQ ro) n s Q := oX (s' := s) (by simp [bQ, hs.1, hs.2]) hq
theorem fX (hg : got.length = N) {sd : Sid} {m w r : Int} {Q : Nat → RS → Unit → Prop} (hs : Wr ro s) (hq : ∀ n', n < n' → n' ≤ N → Q n' s ()) : (aLt sd m w r c got held).sat N (bQ ro) n s Q := by
 unfold aLt
 refine T.sat_bind (cA fun h1 x1 hx1 =>?_)
 refine T.sat_bind (aI fun h2 x2 hx2 =>?_)
 refine T.sat_bind (aI fun h3 x3 hx3 =>?_)
 refine T.sat_cond (fun _ =>?_) (fun _ =>?_)
 ·exact T.sat_bind (bJ hs fun h4 => hq _ (by omega) (by omega))
 ·refine T.sat_bind (T.sat_loop (fun n' s' _ => n < n' ∧ s' = s) (fun n' s' x hI hn' =>?_) _ _ _ _ (by omega) (by omega) ⟨by omega, rfl⟩)
  obtain ⟨h5, rfl⟩ := hI
  unfold uL
  dsimp only
  refine T.sat_cond (fun _ =>?_) (fun _ =>?_)
  ·refine T.sat_bind (bG fun h6 x6 hx6 =>?_)
   refine T.sat_cond (fun _ =>?_) (fun _ =>?_)
   ·exact T.sat_bind (bJ hs fun h7 => hq _ (by omega) (by omega))
   ·exact ⟨by omega, by omega, rfl⟩
  ·exact hq _ h5 hn'
theorem bAf (l : List Int) : (aJ l).Pairwise (· < ·) := by
 have h1 : (aJ l).Pairwise (fun x y => decide (x ≤ y) = true) := List.pairwise_mergeSort (fun a b c h1 h2 => by simp at *; omega) (fun a b => by simp; omega) _
 have h2 : (aJ l).Nodup := (List.mergeSort_perm (iG l) _).nodup_iff.2 (tE l)
 refine (h1.and h2).imp ?_
 rintro a b ⟨h3, h4⟩
 have := of_decide_eq_true h3
 omega
theorem aDd (l : List Int) (x : Int) : x ∈ aJ l ↔ x ∈ l := by
 rw [aJ, (List.mergeSort_perm (iG l) _).mem_iff, sD]
theorem aSx (l : List Int) : (iG l).length ≤ l.length := by
 induction l with
 | nil => simp [iG]
 | cons a l ih =>
  rw [iG]
  split
  ·simp; omega
  ·simp; omega
theorem aDe (l : List Int) : (aJ l).length ≤ l.length := by
 rw [aJ, List.length_mergeSort]
 exact aSx l
theorem aFq {l : List Int} (h : l ≠ []) : aJ l ≠ [] := by
 obtain ⟨a, r, rfl⟩ := List.exists_cons_of_ne_nil h
 exact List.ne_nil_of_mem ((aDd _ a).2 (by simp))
theorem aSy {S : List Int} (hp : S.Pairwise (· < ·)) {k : Nat} (hk : k < S.length) {s : RS} (h1 : s.2 = (S.take k).reverse) (h2 : 0 < k → s.1 = false) : bQ ro s ⟨5, S[k], 0, 0, 0, 0⟩ = some (false, (S.take (k + 1)).reverse) := by
 have e1 : (S.take (k + 1)).reverse = S[k] :: (S.take k).reverse := by
  rw [List.take_succ_eq_append_getElem hk, List.reverse_append]
  rfl
 simp only [bQ]
 rw [if_neg (by decide), if_neg (by decide), if_pos trivial, h1, e1]
 cases k with
 | zero => rfl
 | succ k =>
  have e2 : (S.take (k + 1)).reverse = S[k] :: (S.take k).reverse := by
   rw [List.take_succ_eq_append_getElem (by omega), List.reverse_append]
   rfl
  rw [e2]
  dsimp only
  rw [if_pos ⟨h2 (by omega), List.pairwise_iff_getElem.1 hp k (k + 1) (by omega) hk (by omega)⟩]
theorem oY {l : List Int} (h1 : l.length ≤ 1000000) (h2 : ∀ x ∈ l, aM x) : mH l = true := by
 unfold mH
 rw [Bool.and_eq_true, List.all_eq_true]
 exact ⟨decide_eq_true h1, fun x hx => by rw [Bool.and_eq_true]; exact ⟨decide_eq_true (h2 x hx).1, decide_eq_true (h2 x hx).2⟩⟩
theorem jW (hg : got.length = N) (hn : n ≤ N) {l : List Int} {Q : Nat → RS → List Int → Prop} (hs : s.2 = []) (h1 : l.length ≤ 1000000) (h2 : ∀ x ∈ l, aM x) (h3 : l ≠ []) (hq : ∀ n', n < n' → n' ≤ N → Q n' (false, (aJ l).reverse) (aJ l)) :
  (aHp l c got held).sat N (bQ ro) n s Q := by
 unfold aHp
 refine T.sat_gret (oY h1 h2) ?_
 have hp := bAf l
 have hne := aFq h3
 have hlen := aDe l
 generalize aJ l = S at hp hne hlen hq
 refine T.sat_bind (T.sat_loop (fun n' s' (v : Int) => ∃ k : Nat, v = k ∧ k ≤ S.length ∧ n' = n + k ∧ s'.2 = (S.take k).reverse ∧ (0 < k → s'.1 = false)) (fun n' s' x hI hn' =>?_) _ _ _ _ (by omega) (by omega) ⟨0, rfl, by omega, by omega, by simpa using hs, by omega⟩)
 obtain ⟨k, rfl, hk, rfl, k1, k2⟩ := hI
 unfold xL uM; dsimp only [F.tree, doF]
 by_cases hlt : k < S.length
 ·rw [decide_eq_true (by simp; omega), cond_true]
  have e1 : inR (k : Int) S.length = true := by simp [inR]; omega
  rw [e1, cond_true]
  have e2 : rdE EK.int S (k : Int) = S[k] := by simp [rdE, rd, hlt]
  rw [e2]
  refine T.sat_ask (aSy hp hlt k1 k2) (fun h4 x hx =>?_)
  have e3 : w64 ((k : Int) + 1) = ((k + 1 : Nat) : Int) := by rw [aD] <;> omega
  rw [e3]
  exact ⟨by omega, k + 1, rfl, hlt, by omega, rfl, fun _ => rfl⟩
 ·obtain rfl : k = S.length := by omega
  rw [decide_eq_false (by simp), cond_false]
  have h0 : 0 < S.length := List.length_pos_iff.2 hne
  have e4 : s' = (false, S.reverse) := by
   rw [List.take_length] at k1
   exact Prod.ext (k2 h0) k1
  rw [e4]
  exact hq _ (by omega) hn'
theorem aFr : ∀ (l : List Int) {n : Nat} {s : RS} {Q : Nat → RS → Unit → Prop}, s.2 = l → n ≤ N → (∀ n' b, n ≤ n' → n' ≤ N → Q n' (b, []) ()) → (rI l).sat N (bQ ro) n s Q
 | [], n, s, Q, hs, hn, hq => by
  have : s = (s.1, []) := Prod.ext rfl hs
  rw [this]
  exact hq _ _ (Nat.le_refl _) hn
 | a :: l, n, s, Q, hs, hn, hq => by
  refine ⟨(true, l), ?_, fun h x hx => aFr l rfl h (fun n' b h1 h2 => hq _ _ (by omega) h2)⟩
  simp [bQ, hs]
theorem uY {Q : Nat → RS → Unit → Prop} (hs : s.2 = held.reverse) (hl : held.length ≤ 1000000) (hn : n ≤ N) (hq : ∀ n' b, n ≤ n' → n' ≤ N → Q n' (b, []) ()) : (oL held).sat N (bQ ro) n s Q := by
 unfold oL
 rw [decide_eq_true hl, cond_true]
 exact aFr _ hs hn hq
end
theorem aSz {p q : Pool} {r : Int} (h : eR p = (q, r, 0)) : PoolOk p ∧ ∃ (x : Nat) (l : List Int), p.free = (x : Int) :: l ∧ x < p.gens.length ∧ gD p.states x = 0 ∧ q = ⟨p.gens, p.states.set x 1, p.when_, l⟩ ∧ r = gD p.gens x * 1024 + x + 1 := by
 unfold eR at h
 rcases kO p with ⟨h0, hp⟩ | ⟨h0, hp⟩
 ·rw [if_pos h0] at h
  refine ⟨hp, ?_⟩
  cases hf : p.free with
  | nil => rw [hf] at h; cases h
  | cons x l =>
   rw [hf] at h
   simp only [Prod.mk.injEq] at h
   obtain ⟨q1, q2, q3⟩ := hp.fr x (by rw [hf]; simp)
   obtain ⟨k, rfl⟩ : ∃ k : Nat, x = k := ⟨x.toNat, by omega⟩
   rw [Int.toNat_natCast] at h q3
   exact ⟨k, l, rfl, by omega, q3, h.1.symm, h.2.1.symm⟩
 ·rw [if_neg (by rw [h0]; decide), h0] at h
  simp at h
theorem PoolOk.take {p : Pool} (h : PoolOk p) {x : Nat} {l : List Int} (hf : p.free = (x : Int) :: l) : PoolOk ⟨p.gens, p.states.set x 1, p.when_, l⟩ := by
 have hls := h.ls
 obtain ⟨q1, q2, q3⟩ := h.fr x (by rw [hf]; simp)
 rw [Int.toNat_natCast] at q3
 have hnd := h.nd
 rw [hf] at hnd
 obtain ⟨n1, n2⟩ := List.nodup_cons.1 hnd
 refine ⟨h.n1, h.n2, by simpa using hls, h.lw, fun i hi =>?_, n2, fun y hy =>?_, fun i hi h0 =>?_⟩
 ·have := h.el i hi
  simp only [rY]
  by_cases c : i = x
  ·subst c
   rw [if_pos ⟨rfl, by omega⟩]
   exact ⟨this.1, this.2.1, by decide, by decide, fun _ => this.2.2.2.2 (by rw [q3]; decide)⟩
  ·rw [if_neg (fun h => c h.1)]
   exact this
 ·obtain ⟨r1, r2, r3⟩ := h.fr y (by rw [hf]; simp [hy])
  refine ⟨r1, r2, ?_⟩
  simp only [rY]
  rw [if_neg (fun hc => n1 (by rw [← hc.1, Int.toNat_of_nonneg r1]; exact hy))]
  exact r3
 ·simp only [rY] at h0
  split at h0
  ·cases h0
  ·rename_i c
   have := h.al i hi h0
   rw [hf] at this
   rcases List.mem_cons.1 this with e | e
   ·exact absurd ⟨by omega, by omega⟩ c
   ·exact e
theorem aTa {p q : Pool} {r n : Int} (h : iK p r n = (q, 0)) : PoolOk p ∧ (aR r).2.2 = 0 ∧ ∃ x : Nat, (aR r).1 = x ∧ x < p.gens.length ∧ gD p.states x = 1 ∧ gD p.gens x = (aR r).2.1 ∧ q = ⟨p.gens, p.states.set x 2, p.when_.set x n, p.free⟩ := by
 unfold iK at h
 split at h
 ·cases h
 ·rename_i h1
  split at h
  ·cases h
  ·rename_i h2
   have hp : PoolOk p := by
    rcases kO p with h3 | h3
    ·exact h3.2
    ·exact absurd (.inl (by rw [h3.1]; decide)) h1
   have hu : (aR r).2.2 = 0 := by
    by_cases c : (aR r).2.2 = 0
    ·exact c
    ·exact absurd (.inr (.inl c)) h1
   have := aCg hu
   have hl : (aR r).1 < p.gens.length := by
    by_cases c : (aR r).1 < p.gens.length
    ·exact c
    ·exact absurd (.inr (.inr (by omega))) h1
   refine ⟨hp, hu, (aR r).1.toNat, by omega, by omega, ?_, ?_, ?_⟩
   ·by_cases c : gD p.states (aR r).1.toNat = 1
    ·exact c
    ·exact absurd (.inl c) h2
   ·by_cases c : gD p.gens (aR r).1.toNat = (aR r).2.1
    ·exact c
    ·exact absurd (.inr c) h2
   ·simp only [Prod.mk.injEq] at h
    exact h.1.symm
theorem PoolOk.ret {p : Pool} (h : PoolOk p) {x : Nat} {n : Int} (h1 : gD p.states x = 1) : PoolOk ⟨p.gens, p.states.set x 2, p.when_.set x n, p.free⟩ := by
 have hls := h.ls
 have hlw := h.lw
 refine ⟨h.n1, h.n2, by simpa using hls, by simpa using hlw, fun i hi0 =>?_, h.nd, fun y hy =>?_, fun i hi h0 =>?_⟩
 ·have hi : i < p.gens.length := hi0
  have := h.el i hi
  simp only [rY]
  by_cases c : i = x
  ·subst c
   rw [if_pos ⟨rfl, by omega⟩]
   exact ⟨this.1, this.2.1, by decide, by decide, fun c => absurd rfl c⟩
  ·rw [if_neg (fun h => c h.1), if_neg (fun h => c h.1)]
   exact this
 ·obtain ⟨r1, r2, r3⟩ := h.fr y hy
  refine ⟨r1, r2, ?_⟩
  simp only [rY]
  rw [if_neg (fun hc => by rw [hc.1, h1] at r3; cases r3)]
  exact r3
 ·simp only [rY] at h0
  split at h0
  ·cases h0
  ·exact h.al i hi h0
theorem PoolOk.recl {p : Pool} (h : PoolOk p) (u : Int) : PoolOk (bY p u p.gens.length) := by
 have hls := h.ls
 have hlw := h.lw
 obtain ⟨l1, l2, l3⟩ := mE p u p.gens.length
 have ha := fun k => aHb p u hls hlw k p.gens.length (Nat.le_refl _)
 have hrc : ∀ k, fD p u k = true ↔ (gD p.states k = 2 ∧ gD p.when_ k ≤ u ∧ gD p.gens k ≠ 1099511627775) := fun k => decide_eq_true_iff
 refine ⟨by rw [l1]; exact h.n1, by rw [l1]; exact h.n2, by rw [l1, l2]; exact hls, by rw [l1, l3]; exact hlw, fun i hi =>?_, ?_, fun y hy =>?_, fun i hi h0 =>?_⟩
 ·rw [l1] at hi
  obtain ⟨a1, a2, a3⟩ := ha i
  rw [a1, a2, a3]
  have := h.el i hi
  by_cases c : i < p.gens.length ∧ fD p u i = true
  ·rw [if_pos c, if_pos c, if_pos c]
   have c2 := (hrc i).1 c.2
   exact ⟨by omega, by omega, by decide, by decide, fun _ => rfl⟩
  ·rw [if_neg c, if_neg c, if_neg c]
   exact this
 ·rw [iL]
  refine List.nodup_append.2 ⟨h.nd, ?_, fun x hx y hy =>?_⟩
  ·refine List.Pairwise.map _ (fun a b (hab : a ≠ b) =>?_) (List.Pairwise.filter _ List.nodup_range)
   simp; omega
  ·rintro rfl
   obtain ⟨k, hk, rfl⟩ := List.mem_map.1 hy
   have h2 := (hrc k).1 (List.mem_filter.1 hk).2
   have := (h.fr _ hx).2.2
   simp at this
   rw [h2.1] at this
   cases this
 ·rw [iL] at hy
  rw [l1]
  rcases List.mem_append.1 hy with hy | hy
  ·obtain ⟨r1, r2, r3⟩ := h.fr y hy
   refine ⟨r1, r2, ?_⟩
   rw [(ha _).2.1]
   split
   ·rfl
   ·exact r3
  ·obtain ⟨k, hk, rfl⟩ := List.mem_map.1 hy
   obtain ⟨k1, k2⟩ := List.mem_filter.1 hk
   have k3 := List.mem_range.1 k1
   refine ⟨by simp, by simpa using k3, ?_⟩
   simp only [Int.ofNat_eq_natCast, Int.toNat_natCast]
   rw [(ha _).2.1, if_pos ⟨k3, k2⟩]
 ·rw [l1] at hi
  rw [(ha i).2.1] at h0
  rw [iL]
  split at h0
  ·rename_i c
   exact List.mem_append_right _ (List.mem_map.2 ⟨i, List.mem_filter.2 ⟨List.mem_range.2 hi, c.2⟩, rfl⟩)
  ·exact List.mem_append_left _ (h.al i hi h0)
theorem EraOk.set {e : Era} (h : EraOk e) {t : Nat} {n : Int} (hn : n = -1 ∨ n = e.now) : EraOk ⟨e.now, e.pins.set t n⟩ := by
 refine ⟨h.n0, h.n1, by simpa using h.l1, by simpa using h.l2, fun m hm =>?_⟩
 have h0 := h.n0
 rcases List.mem_or_eq_of_mem_set hm with hm | rfl
 ·exact h.pn m hm
 ·show m = -1 ∨ (0 ≤ m ∧ m ≤ e.now ∧ e.now - 1 ≤ m)
  rcases hn with rfl | rfl
  ·exact .inl rfl
  ·exact .inr (by omega)
theorem aTb {e x : Era} {t : Int} (h : iM e t = (x, 0)) : EraOk e ∧ inR t e.pins.length = true ∧ rdE EK.int e.pins t = -1 ∧ x = ⟨e.now, e.pins.set t.toNat e.now⟩ := by
 unfold iM at h
 split at h
 ·rename_i h1
  simp only [Prod.mk.injEq] at h
  refine ⟨?_, h1.2.1, h1.2.2, h.1.symm⟩
  rcases mF e with h3 | h3
  ·exact h3.2
  ·rw [h3.1] at h1; exact absurd h1.1 (by decide)
 ·simp at h
theorem ArnOk.era2 {s : Shr} (h : ArnOk s) {e : Era} (he : EraOk e) : ArnOk { s with era := e } := ⟨h.p0, h.p1, h.p2, he⟩
theorem aFs {e : Era} (h : EraOk e) : EraOk (dM e).1 := by
 cases ht : (dM e).2 with
 | true => exact (aCj h (x := (dM e).1) (by rw [← ht])).1
 | false =>
  unfold dM at ht ⊢
  rw [pY h, if_pos rfl] at ht ⊢
  split at ht
  ·rename_i c; rw [if_pos c]; exact h
  ·cases ht
theorem bFy {s : Shr} (h : ArnOk s) : ArnOk (kR s).1 ∧ (kR s).1.mem = s.mem ∧ (kR s).1.latches = s.latches ∧ (kR s).1.p0.gens.length = s.p0.gens.length ∧ (kR s).1.p1.gens.length = s.p1.gens.length ∧ (kR s).1.p2.gens.length = s.p2.gens.length ∧ (kR s).1.era.pins = s.era.pins := by
 unfold kR
 rw [if_pos h]
 have hp : (dM s.era).1.pins = s.era.pins := by
  cases ht : (dM s.era).2 with
  | true => rw [(aCj h.era (x := (dM s.era).1) (by rw [← ht])).2.1]
  | false =>
   unfold dM at ht ⊢
   rw [pY h.era, if_pos rfl] at ht ⊢
   split at ht
   ·rename_i c; rw [if_pos c]
   ·cases ht
 split
 ·exact ⟨⟨h.p0.recl _, h.p1.recl _, h.p2.recl _, aFs h.era⟩, rfl, rfl, (mE _ _ _).1, (mE _ _ _).1, (mE _ _ _).1, hp⟩
 ·exact ⟨⟨h.p0, h.p1, h.p2, aFs h.era⟩, rfl, rfl, rfl, rfl, rfl, hp⟩
theorem fY : aM 0 := ⟨by decide, by decide⟩
def uZ (s : Shr) : Prop := ∀ x ∈ s.mem, aM x
theorem bIq {s : Shr} (h : ArnOk s) {w : Int} {p : Pool} (hp : PoolOk p) : ArnOk (setP s w p) := by
 unfold setP
 split
 ·exact ⟨hp, h.p1, h.p2, h.era⟩
 split
 ·exact ⟨h.p0, hp, h.p2, h.era⟩
 ·exact ⟨h.p0, h.p1, hp, h.era⟩
theorem aWa {c : Cfg} {s : Shr} (h : ShOk c s) {w : Int} {p : Pool} (hp : PoolOk p) (hl : p.gens.length = (dU s w).gens.length) : ShOk c (setP s w p) := by
 have ha := bIq h.arn (w := w) hp
 unfold dU at hl
 unfold setP at ha ⊢
 split at hl
 ·rename_i c1
  rw [if_pos c1] at ha ⊢
  exact ⟨h.cfg, ha, h.mem, h.lat, by rw [← h.l0, ← hl], h.l1, h.l2, h.lt⟩
 ·rename_i c1
  rw [if_neg c1] at ha ⊢
  split at hl
  ·rename_i c2
   rw [if_pos c2] at ha ⊢
   exact ⟨h.cfg, ha, h.mem, h.lat, h.l0, by rw [← h.l1, ← hl], h.l2, h.lt⟩
  ·rename_i c2
   rw [if_neg c2] at ha ⊢
   exact ⟨h.cfg, ha, h.mem, h.lat, h.l0, h.l1, by rw [← h.l2, ← hl], h.lt⟩
theorem aNh (s : Shr) (w : Int) (p : Pool) : (setP s w p).mem = s.mem ∧ (setP s w p).latches = s.latches ∧ (setP s w p).era = s.era := by
 unfold setP
 split
 ·exact ⟨rfl, rfl, rfl⟩
 split <;> exact ⟨rfl, rfl, rfl⟩
theorem ShOk.arn2 {c : Cfg} {s x : Shr} (h : ShOk c s) (ha : ArnOk x) (h1 : x.mem = s.mem) (h2 : x.latches = s.latches) (h3 : x.p0.gens.length = s.p0.gens.length) (h4 : x.p1.gens.length = s.p1.gens.length) (h5 : x.p2.gens.length = s.p2.gens.length) : ShOk c x :=
 ⟨h.cfg, ha, by rw [h1]; exact h.mem, by rw [h2]; exact h.lat, by rw [h3]; exact h.l0, by rw [h4]; exact h.l1, by rw [h5]; exact h.l2, by rw [h2]; exact h.lt⟩
theorem aDf {m : List Int} {i v : Int} (h : (gR m i v).2 = 0) : inR i m.length = true ∧ (gR m i v).1 = m.set i.toNat v := by
 unfold gR at h ⊢
 cases e : inR i m.length with
 | true => exact ⟨rfl, rfl⟩
 | false => rw [e] at h; cases h
theorem aDg {m : List Int} {i : Int} (hm : ∀ x ∈ m, aM x) : aM (nG m i).1 := by
 unfold nG
 cases e : inR i m.length with
 | false => exact fY
 | true =>
  obtain ⟨h1, h2⟩ := kB.1 e
  have hl : i.toNat < m.length := by omega
  simp only [cond_true, rdE, rd, List.getD_eq_getElem?_getD, List.getElem?_eq_getElem hl, Option.getD_some]
  exact hm _ (List.getElem_mem hl)
theorem bAg {c : Cfg} {m : List Int} {w r f : Int} (hm : ∀ x ∈ m, aM x) : aM (sA c m w r f).1 := by
 unfold sA
 split
 ·exact aDg hm
 ·exact fY
theorem bFz {c : Cfg} {m : List Int} {w r f v : Int} (h : (qB c m w r f v).2 = 0) : (hZ c m w r f).2 = 0 ∧ inR (hZ c m w r f).1 m.length = true ∧ (qB c m w r f v).1 = m.set (hZ c m w r f).1.toNat v := by
 unfold qB at h ⊢
 split at h
 ·rename_i h1
  rw [if_pos h1]
  obtain ⟨h2, h3⟩ := aDf h
  exact ⟨h1, h2, h3⟩
 ·rename_i h1
  exact absurd h h1
theorem wR {w : Int} : dQ w = true ↔ 0 ≤ w ∧ w ≤ 4611686018427387904 := decide_eq_true_iff
theorem bGa {w : Int} (h : (oI w).2 = true) : dQ w = true ∧ w % 2 = 0 ∧ w ≠ 4611686018427387904 ∧ (oI w).1 = w + 1 := by
 unfold oI at h ⊢
 split at h
 ·rename_i h1
  rw [if_pos h1]
  simp at h1
  exact ⟨h1.1.1, h1.1.2, h1.2, rfl⟩
 ·cases h
theorem bAh {w : Int} (h : (fI w).2 = 0) : dQ w = true ∧ w % 2 = 1 ∧ (fI w).1 = w + 1 := by
 unfold fI at h ⊢
 split at h
 ·rename_i h1
  rw [if_pos h1]
  split at h
  ·rename_i h2
   rw [if_pos h2]
   exact ⟨h1, h2, rfl⟩
  ·cases h
 ·cases h
theorem aNi {c : Cfg} {s : Shr} (h : ShOk c s) {i w : Int} (hw : dQ w = true) : ShOk c (aKn s i w) :=
 ⟨h.cfg, ⟨h.arn.p0, h.arn.p1, h.arn.p2, h.arn.era⟩, h.mem, by show Int.ofNat (s.latches.set i.toNat w).length = _; rw [List.length_set]; exact h.lat, h.l0, h.l1, h.l2, fun x hx => by
  rcases List.mem_or_eq_of_mem_set hx with hx | rfl
  ·exact h.lt x hx
  ·exact hw⟩
theorem bLx {c : Cfg} {s : Shr} (h : ShOk c s) {i : Int} (hi : inR i s.latches.length = true) : dQ (rdE EK.int s.latches i) = true := by
 obtain ⟨h1, h2⟩ := kB.1 hi
 have hl : i.toNat < s.latches.length := by omega
 have : rdE EK.int s.latches i = s.latches[i.toNat] := by simp [rdE, rd, hl]
 rw [this]
 exact h.lt _ (List.getElem_mem hl)
theorem bGb {c : Cfg} {s x : Shr} {t n : Int} {a : Acc} (h : ShOk c s) (hd : doS c s t a = (x, n, 0)) : ShOk c x ∧ (uZ s → aM n) ∧ (uZ s → (a.kind = 4 → aM a.value) → uZ x) ∧ x.era.pins.length = s.era.pins.length := by
 have z64 : aM 0 := ⟨by decide, by decide⟩
 unfold doS at hd
 by_cases k34 : a.kind = 3 ∨ a.kind = 4
 ·rw [if_pos k34] at hd
  unfold kT at hd
  by_cases k3 : a.kind = 3
  ·rw [if_pos k3] at hd
   split at hd
   ·simp only [Prod.mk.injEq] at hd
    obtain ⟨rfl, rfl, _⟩ := hd
    exact ⟨h, fun hm => bAg hm, fun hm _ => hm, rfl⟩
   ·simp only [Prod.mk.injEq] at hd
    obtain ⟨rfl, rfl, _⟩ := hd
    exact ⟨h, fun hm => aDg hm, fun hm _ => hm, rfl⟩
  ·rw [if_neg k3] at hd
   have k4 : a.kind = 4 := by omega
   have key : ∀ i : Nat, ShOk c { s with mem := s.mem.set i a.value } ∧ (uZ s → (a.kind = 4 → aM a.value) → uZ { s with mem := s.mem.set i a.value }) := fun i => by
    refine ⟨⟨h.cfg, ⟨h.arn.p0, h.arn.p1, h.arn.p2, h.arn.era⟩, by show Int.ofNat (s.mem.set i a.value).length = _; rw [List.length_set]; exact h.mem, h.lat, h.l0, h.l1, h.l2, h.lt⟩, fun hm hv y hy =>?_⟩
    rcases List.mem_or_eq_of_mem_set hy with hy | rfl
    ·exact hm y hy
    ·exact hv k4
   split at hd
   ·simp only [Prod.mk.injEq] at hd
    obtain ⟨rfl, rfl, he⟩ := hd
    rw [(bFz he).2.2]
    exact ⟨(key _).1, fun _ => z64, (key _).2, rfl⟩
   ·simp only [Prod.mk.injEq] at hd
    obtain ⟨rfl, rfl, he⟩ := hd
    rw [(aDf he).2]
    exact ⟨(key _).1, fun _ => z64, (key _).2, rfl⟩
 rw [if_neg k34] at hd
 by_cases k567 : a.kind = 5 ∨ a.kind = 6 ∨ a.kind = 7
 ·rw [if_pos k567] at hd
  unfold kS at hd
  split at hd
  ·rename_i hi
   have hw := bLx h hi
   have hw2 := wR.1 hw
   split at hd
   ·split at hd
    ·rename_i hk ht
     simp only [Prod.mk.injEq] at hd
     obtain ⟨rfl, rfl, _⟩ := hd
     obtain ⟨_, t2, t3, t4⟩ := bGa ht
     exact ⟨aNi h (by rw [t4, wR]; omega), fun _ => z64, fun hm _ => hm, rfl⟩
    ·simp at hd
   ·split at hd
    ·split at hd
     ·rename_i hk ht
      simp only [Prod.mk.injEq] at hd
      obtain ⟨rfl, rfl, _⟩ := hd
      obtain ⟨_, t2, t3⟩ := bAh ht
      exact ⟨aNi h (by rw [t3, wR]; omega), fun _ => z64, fun hm _ => hm, rfl⟩
     ·rename_i ht
      simp only [Prod.mk.injEq] at hd
      exact absurd hd.2.2 ht
    ·simp only [Prod.mk.injEq] at hd
     obtain ⟨rfl, rfl, _⟩ := hd
     exact ⟨h, fun _ => ⟨by omega, by omega⟩, fun hm _ => hm, rfl⟩
  ·simp at hd
 rw [if_neg k567] at hd
 by_cases k19 : a.kind = 1 ∨ a.kind = 2 ∨ a.kind = 8 ∨ a.kind = 9
 ·rw [if_pos k19] at hd
  unfold gS at hd
  split at hd
  ·simp only [Prod.mk.injEq] at hd
   obtain ⟨hx, rfl, he⟩ := hd
   unfold wE at hx he
   rw [if_pos h.arn] at hx he
   split at he
   ·rename_i hp
    rw [if_pos hp] at hx
    obtain ⟨e1, e2, e3, e4⟩ := aTb (e := s.era) (t := t) (x := (iM s.era t).1) (by rw [← hp])
    subst hx
    refine ⟨h.arn2 (h.arn.era2 (by rw [e4]; exact e1.set (.inr rfl))) rfl rfl rfl rfl rfl, fun _ => z64, fun hm _ => hm, ?_⟩
    show (iM s.era t).1.pins.length = _
    rw [e4]
    simp
   ·rename_i hp
    exact absurd he hp
  ·split at hd
   ·simp only [Prod.mk.injEq] at hd
    obtain ⟨hx, rfl, he⟩ := hd
    unfold wF at hx he
    rw [aKj h.arn, if_pos rfl] at hx he
    split at he
    ·rename_i hp
     rw [if_pos hp] at hx
     obtain ⟨e1, e2, e3, e4⟩ := aCm hp
     have ha : ArnOk { s with era := (eT s.era t).1 } := h.arn.era2 (by rw [e1]; exact e2.set (.inl rfl))
     obtain ⟨t1, t2, t3, t4, t5, t6, t7⟩ := bFy ha
     subst hx
     refine ⟨h.arn2 t1 t2 t3 t4 t5 t6, fun _ => z64, fun hm _ => by unfold uZ; rw [t2]; exact hm, ?_⟩
     rw [t7]
     show (eT s.era t).1.pins.length = _
     rw [e1]
     simp
    ·rename_i hp
     exact absurd he hp
   ·split at hd
    ·simp only [Prod.mk.injEq] at hd
     obtain ⟨hx, rfl, he⟩ := hd
     unfold wC at hx he
     split at he
     ·rename_i hm
      rw [if_pos hm] at hx
      split at he
      ·rename_i hp
       rw [if_pos hp] at hx
       obtain ⟨e1, e2, y, e3, e4, e5, e6, e7⟩ := aTa (p := dU s a.which) (r := a.ref) (n := s.era.now) (q := (iK (dU s a.which) a.ref s.era.now).1) (by rw [← hp])
       subst hx
       obtain ⟨m1, m2, m3⟩ := aNh s a.which (iK (dU s a.which) a.ref s.era.now).1
       refine ⟨aWa h (by rw [e7]; exact e1.ret e5) (by rw [e7]), fun _ => z64, fun hm _ => by unfold uZ; rw [m1]; exact hm, by rw [m3]⟩
      ·rename_i hp
       exact absurd he hp
     ·cases he
    ·split at hd
     ·split at hd
      ·simp only [Prod.mk.injEq] at hd
       obtain ⟨rfl, rfl, _⟩ := hd
       exact ⟨h, fun _ => z64, fun hm _ => hm, rfl⟩
      ·unfold qA at hd
       split at hd
       ·split at hd
        ·rename_i hp
         simp only [Prod.mk.injEq] at hd
         obtain ⟨rfl, rfl, _⟩ := hd
         obtain ⟨e1, y, l, e2, e3, e4, e5, e6⟩ := aSz (p := dU s a.which) (q := (eR (dU s a.which)).1) (r := (eR (dU s a.which)).2.1) (by rw [← hp])
         obtain ⟨m1, m2, m3⟩ := aNh s a.which (eR (dU s a.which)).1
         have hg := e1.el y e3
         have hn2 := e1.n2
         exact ⟨aWa h (by rw [e5]; exact e1.take e2) (by rw [e5]), fun _ => by rw [e6]; exact ⟨by omega, by omega⟩, fun hm _ => by unfold uZ; rw [m1]; exact hm, by rw [m3]⟩
        ·rename_i hp
         simp only [Prod.mk.injEq] at hd
         exact absurd hd.2.2 hp
       ·simp at hd
     ·simp only [Prod.mk.injEq] at hd
      obtain ⟨rfl, rfl, _⟩ := hd
      exact ⟨h, fun _ => z64, fun hm _ => hm, rfl⟩
 ·rw [if_neg k19] at hd
  simp at hd
theorem aHy {c : Cfg} {s x : Shr} {t n : Int} {a : Acc} {l : List Tou} (h : kQ c s t a = (x, n, l, 0)) : ShOk c s ∧ sC s a = false ∧ doS c s t a = (x, n, 0) ∧ l = doL s t a := by
 unfold kQ at h
 rcases aKm c s with ⟨a0, ha⟩ | ⟨a0, ha⟩
 rotate_left
 ·rw [a0, if_pos (by decide)] at h; simp at h
 rw [a0, if_neg (by decide)] at h
 split at h
 ·simp at h
 ·rename_i hw
  split at h
  ·rename_i he
   simp only [Prod.mk.injEq] at h
   exact absurd h.2.2.2 he
  ·rename_i he
   simp only [Prod.mk.injEq] at h
   obtain ⟨rfl, rfl, rfl, _⟩ := h
   refine ⟨ha, by simpa using hw, ?_, rfl⟩
   have : (doS c s t a).2.2 = 0 := by
    by_cases e : (doS c s t a).2.2 = 0
    ·exact e
    ·exact absurd e he
   rw [← this]
theorem aHz (s : Shr) (t : Int) (a : Acc) : (doL s t a).length ≤ 1 := by
 unfold doL wG
 split <;> simp
end Go.Ax.Cd
