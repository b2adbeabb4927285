/- Merged. -/
import Derived.Test.YteoeolfcpmalfaaGreatDoorQ28
import Derived.Test.YteoeolfcpmalfaaGreatDoorQ13
namespace Go.Ax.Cd
open Go.Proofs
set_option linter.unusedVariables false
set_option maxRecDepth 100000
noncomputable abbrev fuseL2E : He := ⟨2, Tryz.f50, 2, [2, 3, 6, 7, 8, 15], [vi, .s (.ptr 2 0), .s (.ptr 3 0), .s (.ptr 4 0), .s (.ptr 5 0), .s (.ptr 6 0)], [.box [.e (.st .cfg), .e (.sl .int), .own 1, .sln .int], .arr (.st .acc), .box [.ptr 0 0], .box [.e (.st .res)], .box [.ptr 0 0, .e .int, .e .int], .box [.ptr 0 0, .e .int, .e .int], .box [.ptr 0 0, .e .int, .e .int]], ((Fin.one 2 Tryz.f50.ntmps (.exit 4) [2, 3, 6, 8] [vi, .s (.ptr 2 0), .s (.ptr 3 0), .s (.ptr 4 0)] [.box [.e (.st .cfg), .e (.sl .int), .own 1, .sln .int], .arr (.st .acc), .box [.ptr 0 0], .box [.e (.st .res)], .box [.ptr 0 0, .e .int, .e .int]]).or (Fin.pan 2 59 (.agg []) machP)), Int → Cfg → List Int → List Int → Res → Int → Int → Int → Int → Int → Int → F (Unit), Unit, fun t x => t x.1.1 x.2.1.1 x.2.1.2.1 x.2.1.2.2.2.1 x.2.2.2.2.1.1 x.2.2.2.2.2.1.2.1 x.2.2.2.2.2.1.2.2.1 x.2.2.2.2.2.2.1.2.1 x.2.2.2.2.2.2.1.2.2.1 x.2.2.2.2.2.2.2.1.2.1 x.2.2.2.2.2.2.2.1.2.2.1, fun x a d K => K (Sum.inl (((x.1.1, (), (), (), ()), ((x.2.1.1, x.2.1.2.1, (), x.2.1.2.2.2.1, ()), d, ((), ()), (x.2.2.2.2.1.1, ()), ((), x.2.2.2.2.2.2.1.2.1, x.2.2.2.2.2.2.1.2.2.1, ()), ())))), fun x d => Sum.inr ((((), ()), ((x.2.1.1, x.2.1.2.1, (), (), ()), d, ()))), fun x => x.2.1.2.1, fun x => x.2.2.1, fun _ _ _ _ => rfl⟩
def fuseL2X (x : fuseL2E.X) (s : Int) (d : List Acc) : fuseL2E.X := ((x.1.1, (), (), (), (), (), ()), ((x.2.1.1, x.2.1.2.1, (), x.2.1.2.2.2.1, ()), d, ((), ()), (x.2.2.2.2.1.1, ()), ((), x.2.2.2.2.2.1.2.1, x.2.2.2.2.2.1.2.2.1, ()), ((), x.2.2.2.2.2.2.1.2.1, x.2.2.2.2.2.2.1.2.2.1, ()), ((), x.2.2.2.2.2.2.2.1.2.1, s, ()), ()))
def fuseL2B (p0 : loadE.T) (p1 : storeE.T) (p2 : retireE.T) (p3 : nextE.T) (p4 : walkFE.T) (v0 : Int) (c : Cfg) (got held : List Int) (v12 : Res) (v14 v15 v17 v18 v20 st : Int) : F ((Int) ⊕ (Unit)) :=
 let v21 := st; 
 .ite (!v21 == 0) ((p0 v20 v21 0 c got held).bind fun x1 =>
 (p3 v20 v21 2 c got held).bind fun x2 =>
 (p0 v14 v15 3 c got held).bind fun x3 =>
 (p4 3 x3 c got held x1).bind fun x5 =>
 .ite (x5) ((p2 v20 v21 c got held).bind fun _ =>
 .ret (Sum.inl x2))
 ((p1 v20 v21 2 x3 c got held).bind fun _ =>
 (p1 v14 v15 3 v21 c got held).bind fun _ =>
 .ret (Sum.inl x2)))
 (.ret (Sum.inr ()))
abbrev fuseL2Step (v0 : Int) (c : Cfg) (got held : List Int) (v12 : Res) (v14 v15 v17 v18 v20 st : Int) := (fuseL2B loadF storeF retireF nextF walkFF v0 c got held v12 v14 v15 v17 v18 v20 st).tree
def fuseL2F : fuseL2E.LT := fun v0 c got held v12 v14 v15 v17 v18 v20 s0 => .tr (T.loop (fuseL2Step v0 c got held v12 v14 v15 v17 v18 v20) (got.length + 10) s0)
theorem fuseL2_raw (p0 : loadE.T) (p1 : storeE.T) (p2 : retireE.T) (p3 : nextE.T) (p4 : walkFE.T) (x) : fuseL2E.run [nodeAtE.on nodeAtN, loadE.on p0, storeE.on p1, retireE.on p2, setE.on setF, nextE.on p3, edgeE.on edgeF, propE.on propF, noneE.on noneF, failedE.on failedN, knownE.on knownF, walkFE.on p4, holdFE.on holdFF] [] [] x = fuseL2E.go1 fuseL2X (fuseL2B p0 p1 p2 p3 p4 x.1.1 x.2.1.1 x.2.1.2.1 x.2.1.2.2.2.1 x.2.2.2.2.1.1 x.2.2.2.2.2.1.2.1 x.2.2.2.2.2.1.2.2.1 x.2.2.2.2.2.2.1.2.1 x.2.2.2.2.2.2.1.2.2.1 x.2.2.2.2.2.2.2.1.2.1 x.2.2.2.2.2.2.2.1.2.2.1) x := by kernel_rfl
theorem fuseL2_ok : fuseL2E.Ok fuseL2F := He.k fuseL2X (fun x => x.2.2.2.2.2.2.2.1.2.2.1) (fun x s => fuseL2B loadF storeF retireF nextF walkFF x.1.1 x.2.1.1 x.2.1.2.1 x.2.1.2.2.2.1 x.2.2.2.2.1.1 x.2.2.2.2.2.1.2.1 x.2.2.2.2.2.1.2.2.1 x.2.2.2.2.2.2.1.2.1 x.2.2.2.2.2.2.1.2.2.1 x.2.2.2.2.2.2.2.1.2.1 s) (fo f1 fp) (nodeAt_ok.k (load_ok.k (store_ok.k (retire_ok.k (set_ok.k (next_ok.k (edge_ok.k (prop_ok.k (none_ok.k (failed_ok.k (known_ok.k (walkF_ok.k (holdF_ok.k g0))))))))))))) (noloopN (by kernel_rfl)) (fuseL2_raw loadF storeF retireF nextF walkFF) (fun _ => rfl) (fun _ => rfl) (fun _ _ _ => rfl) (fun _ _ _ => ⟨rfl, rfl⟩)
noncomputable abbrev fuseL1E : He := ⟨2, Tryz.f50, 1, [2, 3, 4, 6, 7, 8, 11, 12, 13, 14, 43, 44], [vi, .s (.ptr 2 0), .s (.ptr 3 0), .s (.ptr 4 0), .s (.ptr 5 0), .s (.ptr 6 0), .s (.ptr 7 0), .s (.ptr 8 0), .s (.ptr 9 0), .s (.ptr 10 0), .agg [.e .int, .e .int, .e .int, .e .int, .e .int, .e .int, .e .int, .e .int], vi], [.box [.e (.st .cfg), .e (.sl .int), .own 1, .sln .int], .arr (.st .acc), .box [.ptr 0 0], .box [.e .int], .box [.e (.st .res)], .box [.ptr 0 0, .e .int, .e .int], .box [.ptr 0 0, .e .int, .e .int], .box [.e (.st .sid)], .box [.ptr 0 0, .e .int, .e .int], .box [.ptr 0 0, .e .int, .e .int], .box [.ptr 0 0, .e .int, .e .int]], ((Fin.one 2 Tryz.f50.ntmps (.exit 2) [2, 3, 4, 6, 7, 8, 11, 12, 13, 43, 44] [vi, .s (.ptr 2 0), .s (.ptr 3 0), .s (.ptr 4 0), .s (.ptr 5 0), .s (.ptr 6 0), .s (.ptr 7 0), .s (.ptr 8 0), .s (.ptr 9 0), .agg [.e .int, .e .int, .e .int, .e .int, .e .int, .e .int, .e .int, .e .int], vi] [.box [.e (.st .cfg), .e (.sl .int), .own 1, .sln .int], .arr (.st .acc), .box [.ptr 0 0], .box [.e .int], .box [.e (.st .res)], .box [.ptr 0 0, .e .int, .e .int], .box [.ptr 0 0, .e .int, .e .int], .box [.e (.st .sid)], .box [.ptr 0 0, .e .int, .e .int], .box [.ptr 0 0, .e .int, .e .int]]).or (Fin.pan 2 59 (.agg []) machP)), Int → Int → Int → Int → Int → Int → Int → Int → Int → Int → Cfg → List Int → List Int → Int → Res → Int → Int → Int → Int → Sid → Int → Int → Int → Int → Int → Int → F (Int × Int × Int × Int), Int × Int × Int × Int, fun t x => t x.1.1 x.1.2.2.2.2.2.2.2.2.2.2.1.1 x.1.2.2.2.2.2.2.2.2.2.2.1.2.1 x.1.2.2.2.2.2.2.2.2.2.2.1.2.2.1 x.1.2.2.2.2.2.2.2.2.2.2.1.2.2.2.1 x.1.2.2.2.2.2.2.2.2.2.2.1.2.2.2.2.1 x.1.2.2.2.2.2.2.2.2.2.2.1.2.2.2.2.2.1 x.1.2.2.2.2.2.2.2.2.2.2.1.2.2.2.2.2.2.1 x.1.2.2.2.2.2.2.2.2.2.2.1.2.2.2.2.2.2.2.1 x.1.2.2.2.2.2.2.2.2.2.2.2.1 x.2.1.1 x.2.1.2.1 x.2.1.2.2.2.1 x.2.2.2.2.1.1 x.2.2.2.2.2.1.1 x.2.2.2.2.2.2.1.2.1 x.2.2.2.2.2.2.1.2.2.1 x.2.2.2.2.2.2.2.1.2.1 x.2.2.2.2.2.2.2.1.2.2.1 x.2.2.2.2.2.2.2.2.1.1 x.2.2.2.2.2.2.2.2.2.2.2.1.2.1 x.2.2.2.2.2.2.2.2.2.1.2.1 x.2.2.2.2.2.2.2.2.2.1.2.2.1 x.2.2.2.2.2.2.2.2.2.2.1.2.1 x.2.2.2.2.2.2.2.2.2.2.1.2.2.1 x.2.2.2.2.2.2.2.2.2.2.2.1.2.2.1, fun x a d K => K (Sum.inl (((x.1.1, (), (), (), (), (), (), (), (), (x.1.2.2.2.2.2.2.2.2.2.2.1.1, x.1.2.2.2.2.2.2.2.2.2.2.1.2.1, x.1.2.2.2.2.2.2.2.2.2.2.1.2.2.1, x.1.2.2.2.2.2.2.2.2.2.2.1.2.2.2.1, x.1.2.2.2.2.2.2.2.2.2.2.1.2.2.2.2.1, x.1.2.2.2.2.2.2.2.2.2.2.1.2.2.2.2.2.1, x.1.2.2.2.2.2.2.2.2.2.2.1.2.2.2.2.2.2.1, x.1.2.2.2.2.2.2.2.2.2.2.1.2.2.2.2.2.2.2.1, ()), x.1.2.2.2.2.2.2.2.2.2.2.2.1, ()), ((x.2.1.1, x.2.1.2.1, (), x.2.1.2.2.2.1, ()), d, ((), ()), (x.2.2.2.2.1.1, ()), (x.2.2.2.2.2.1.1, ()), ((), x.2.2.2.2.2.2.1.2.1, x.2.2.2.2.2.2.1.2.2.1, ()), ((), x.2.2.2.2.2.2.2.1.2.1, x.2.2.2.2.2.2.2.1.2.2.1, ()), (x.2.2.2.2.2.2.2.2.1.1, ()), ((), a.1, a.2.1, ()), ((), a.2.2.1, a.2.2.2, ()), ())))), fun x d => Sum.inr ((((), ()), ((x.2.1.1, x.2.1.2.1, (), (), ()), d, ()))), fun x => x.2.1.2.1, fun x => x.2.2.1, fun _ _ _ _ => rfl⟩
def fuseL1X (x : fuseL1E.X) (s : Int × Int × Int × Int × Int) (d : List Acc) : fuseL1E.X := ((x.1.1, (), (), (), (), (), (), (), (), (), (x.1.2.2.2.2.2.2.2.2.2.2.1.1, x.1.2.2.2.2.2.2.2.2.2.2.1.2.1, x.1.2.2.2.2.2.2.2.2.2.2.1.2.2.1, x.1.2.2.2.2.2.2.2.2.2.2.1.2.2.2.1, x.1.2.2.2.2.2.2.2.2.2.2.1.2.2.2.2.1, x.1.2.2.2.2.2.2.2.2.2.2.1.2.2.2.2.2.1, x.1.2.2.2.2.2.2.2.2.2.2.1.2.2.2.2.2.2.1, x.1.2.2.2.2.2.2.2.2.2.2.1.2.2.2.2.2.2.2.1, ()), x.1.2.2.2.2.2.2.2.2.2.2.2.1, ()), ((x.2.1.1, x.2.1.2.1, (), x.2.1.2.2.2.1, ()), d, ((), ()), (x.2.2.2.2.1.1, ()), (x.2.2.2.2.2.1.1, ()), ((), x.2.2.2.2.2.2.1.2.1, x.2.2.2.2.2.2.1.2.2.1, ()), ((), x.2.2.2.2.2.2.2.1.2.1, x.2.2.2.2.2.2.2.1.2.2.1, ()), (x.2.2.2.2.2.2.2.2.1.1, ()), ((), s.1, s.2.1, ()), ((), s.2.2.1, s.2.2.2.1, ()), ((), x.2.2.2.2.2.2.2.2.2.2.2.1.2.1, s.2.2.2.2, ()), ()))
def fuseL1B (p0 : storeE.T) (p1 : nextE.T) (v0 v10 v11 v12 v13 v14 v15 v16 v17 v18 : Int) (c : Cfg) (got held : List Int) (v25 : Int) (v26 : Res) (v28 v29 v31 v32 : Int) (v33 : Sid) (v41 : Int) (st : Int × Int × Int × Int × Int) : F ((Int × Int × Int × Int × Int) ⊕ (Int × Int × Int × Int)) :=
 let v35 := st.1; let v36 := st.2.1; let v38 := st.2.2.1; let v39 := st.2.2.2.1; let v42 := st.2.2.2.2; 
 .ite (!v42 == 0) (.ite (v36 == 0) ((p0 v41 v42 v33.own v25 c got held).bind fun _ =>
 (p1 v41 v42 v33.link c got held).bind fun x3 =>
 .ret (Sum.inl (v41, v42, v41, v42, x3)))
 ((p0 v41 v42 v33.own v25 c got held).bind fun _ =>
 (p1 v41 v42 v33.link c got held).bind fun x3 =>
 .ret (Sum.inl (v35, v36, v41, v42, x3))))
 (.ret (Sum.inr (v35, v36, v38, v39)))
abbrev fuseL1Step (v0 v10 v11 v12 v13 v14 v15 v16 v17 v18 : Int) (c : Cfg) (got held : List Int) (v25 : Int) (v26 : Res) (v28 v29 v31 v32 : Int) (v33 : Sid) (v41 : Int) (st : Int × Int × Int × Int × Int) := (fuseL1B storeF nextF v0 v10 v11 v12 v13 v14 v15 v16 v17 v18 c got held v25 v26 v28 v29 v31 v32 v33 v41 st).tree
def fuseL1F : fuseL1E.LT := fun v0 v10 v11 v12 v13 v14 v15 v16 v17 v18 c got held v25 v26 v28 v29 v31 v32 v33 v41 s0 s1 s2 s3 s4 => .tr (T.loop (fuseL1Step v0 v10 v11 v12 v13 v14 v15 v16 v17 v18 c got held v25 v26 v28 v29 v31 v32 v33 v41) (got.length + 10) (s0, s1, s2, s3, s4))
theorem fuseL1_raw (p0 : storeE.T) (p1 : nextE.T) (x) : fuseL1E.run [nodeAtE.on nodeAtN, loadE.on loadF, storeE.on p0, retireE.on retireF, setE.on setF, nextE.on p1, edgeE.on edgeF, propE.on propF, noneE.on noneF, failedE.on failedN, knownE.on knownF, walkFE.on walkFF, holdFE.on holdFF] [] [] x = fuseL1E.go1 fuseL1X (fuseL1B p0 p1 x.1.1 x.1.2.2.2.2.2.2.2.2.2.2.1.1 x.1.2.2.2.2.2.2.2.2.2.2.1.2.1 x.1.2.2.2.2.2.2.2.2.2.2.1.2.2.1 x.1.2.2.2.2.2.2.2.2.2.2.1.2.2.2.1 x.1.2.2.2.2.2.2.2.2.2.2.1.2.2.2.2.1 x.1.2.2.2.2.2.2.2.2.2.2.1.2.2.2.2.2.1 x.1.2.2.2.2.2.2.2.2.2.2.1.2.2.2.2.2.2.1 x.1.2.2.2.2.2.2.2.2.2.2.1.2.2.2.2.2.2.2.1 x.1.2.2.2.2.2.2.2.2.2.2.2.1 x.2.1.1 x.2.1.2.1 x.2.1.2.2.2.1 x.2.2.2.2.1.1 x.2.2.2.2.2.1.1 x.2.2.2.2.2.2.1.2.1 x.2.2.2.2.2.2.1.2.2.1 x.2.2.2.2.2.2.2.1.2.1 x.2.2.2.2.2.2.2.1.2.2.1 x.2.2.2.2.2.2.2.2.1.1 x.2.2.2.2.2.2.2.2.2.2.2.1.2.1 (x.2.2.2.2.2.2.2.2.2.1.2.1, x.2.2.2.2.2.2.2.2.2.1.2.2.1, x.2.2.2.2.2.2.2.2.2.2.1.2.1, x.2.2.2.2.2.2.2.2.2.2.1.2.2.1, x.2.2.2.2.2.2.2.2.2.2.2.1.2.2.1)) x := by kernel_rfl
theorem fuseL1_ok : fuseL1E.Ok fuseL1F := He.k fuseL1X (fun x => (x.2.2.2.2.2.2.2.2.2.1.2.1, x.2.2.2.2.2.2.2.2.2.1.2.2.1, x.2.2.2.2.2.2.2.2.2.2.1.2.1, x.2.2.2.2.2.2.2.2.2.2.1.2.2.1, x.2.2.2.2.2.2.2.2.2.2.2.1.2.2.1)) (fun x s => fuseL1B storeF nextF x.1.1 x.1.2.2.2.2.2.2.2.2.2.2.1.1 x.1.2.2.2.2.2.2.2.2.2.2.1.2.1 x.1.2.2.2.2.2.2.2.2.2.2.1.2.2.1 x.1.2.2.2.2.2.2.2.2.2.2.1.2.2.2.1 x.1.2.2.2.2.2.2.2.2.2.2.1.2.2.2.2.1 x.1.2.2.2.2.2.2.2.2.2.2.1.2.2.2.2.2.1 x.1.2.2.2.2.2.2.2.2.2.2.1.2.2.2.2.2.2.1 x.1.2.2.2.2.2.2.2.2.2.2.1.2.2.2.2.2.2.2.1 x.1.2.2.2.2.2.2.2.2.2.2.2.1 x.2.1.1 x.2.1.2.1 x.2.1.2.2.2.1 x.2.2.2.2.1.1 x.2.2.2.2.2.1.1 x.2.2.2.2.2.2.1.2.1 x.2.2.2.2.2.2.1.2.2.1 x.2.2.2.2.2.2.2.1.2.1 x.2.2.2.2.2.2.2.1.2.2.1 x.2.2.2.2.2.2.2.2.1.1 x.2.2.2.2.2.2.2.2.2.2.2.1.2.1 s) (fo f1 fp) (nodeAt_ok.k (load_ok.k (store_ok.k (retire_ok.k (set_ok.k (next_ok.k (edge_ok.k (prop_ok.k (none_ok.k (failed_ok.k (known_ok.k (walkF_ok.k (holdF_ok.k g0))))))))))))) (noloopN (by kernel_rfl)) (fuseL1_raw storeF nextF) (fun _ => rfl) (fun _ => rfl) (fun _ _ _ => rfl) (fun _ _ _ => ⟨rfl, rfl⟩)
noncomputable abbrev fuseL0E : He := ⟨2, Tryz.f50, 0, [2, 3, 4, 6, 7, 8, 43, 44], [vi, .s (.ptr 2 0), .s (.ptr 3 0), .s (.ptr 4 0), .s (.ptr 5 0), .s (.ptr 6 0), .agg [.e .int, .e .int, .e .int, .e .int, .e .int, .e .int, .e .int, .e .int], vi], [.box [.e (.st .cfg), .e (.sl .int), .own 1, .sln .int], .arr (.st .acc), .box [.ptr 0 0], .box [.e .int], .box [.e (.st .res)], .box [.ptr 0 0, .e .int, .e .int], .box [.ptr 0 0, .e .int, .e .int]], ((Fin.one 2 Tryz.f50.ntmps (.exit 0) [2, 3, 6, 7, 8] [vi, .s (.ptr 2 0), .s (.ptr 3 0), .s (.ptr 4 0), .s (.ptr 5 0)] [.box [.e (.st .cfg), .e (.sl .int), .own 1, .sln .int], .arr (.st .acc), .box [.ptr 0 0], .box [.e (.st .res)], .box [.ptr 0 0, .e .int, .e .int], .box [.ptr 0 0, .e .int, .e .int]]).or (Fin.pan 2 59 (.agg []) machP)), Int → Int → Int → Int → Int → Int → Int → Int → Int → Cfg → List Int → List Int → Int → Res → Int → Int → Int → Int → Int → F (Unit), Unit, fun t x => t x.1.1 x.1.2.2.2.2.2.2.1.1 x.1.2.2.2.2.2.2.1.2.1 x.1.2.2.2.2.2.2.1.2.2.1 x.1.2.2.2.2.2.2.1.2.2.2.1 x.1.2.2.2.2.2.2.1.2.2.2.2.1 x.1.2.2.2.2.2.2.1.2.2.2.2.2.1 x.1.2.2.2.2.2.2.1.2.2.2.2.2.2.1 x.1.2.2.2.2.2.2.1.2.2.2.2.2.2.2.1 x.2.1.1 x.2.1.2.1 x.2.1.2.2.2.1 x.2.2.2.2.1.1 x.2.2.2.2.2.1.1 x.2.2.2.2.2.2.1.2.1 x.2.2.2.2.2.2.1.2.2.1 x.2.2.2.2.2.2.2.1.2.1 x.2.2.2.2.2.2.2.1.2.2.1 x.1.2.2.2.2.2.2.2.1, fun x a d K => K (Sum.inl (((x.1.1, (), (), (), (), ()), ((x.2.1.1, x.2.1.2.1, (), x.2.1.2.2.2.1, ()), d, ((), ()), (x.2.2.2.2.2.1.1, ()), ((), x.2.2.2.2.2.2.1.2.1, x.2.2.2.2.2.2.1.2.2.1, ()), ((), x.2.2.2.2.2.2.2.1.2.1, x.2.2.2.2.2.2.2.1.2.2.1, ()), ())))), fun x d => Sum.inr ((((), ()), ((x.2.1.1, x.2.1.2.1, (), (), ()), d, ()))), fun x => x.2.1.2.1, fun x => x.2.2.1, fun _ _ _ _ => rfl⟩
def fuseL0X (x : fuseL0E.X) (s : Int) (d : List Acc) : fuseL0E.X := ((x.1.1, (), (), (), (), (), (x.1.2.2.2.2.2.2.1.1, x.1.2.2.2.2.2.2.1.2.1, x.1.2.2.2.2.2.2.1.2.2.1, x.1.2.2.2.2.2.2.1.2.2.2.1, x.1.2.2.2.2.2.2.1.2.2.2.2.1, x.1.2.2.2.2.2.2.1.2.2.2.2.2.1, x.1.2.2.2.2.2.2.1.2.2.2.2.2.2.1, x.1.2.2.2.2.2.2.1.2.2.2.2.2.2.2.1, ()), s, ()), ((x.2.1.1, x.2.1.2.1, (), x.2.1.2.2.2.1, ()), d, ((), ()), (x.2.2.2.2.1.1, ()), (x.2.2.2.2.2.1.1, ()), ((), x.2.2.2.2.2.2.1.2.1, x.2.2.2.2.2.2.1.2.2.1, ()), ((), x.2.2.2.2.2.2.2.1.2.1, x.2.2.2.2.2.2.2.1.2.2.1, ()), ()))
def fuseL0B (p0 : loadE.T) (p1 : storeE.T) (p2 : fuseL1E.LT) (v0 v6 v7 v8 v9 v10 v11 v12 v13 : Int) (c : Cfg) (got held : List Int) (v21 : Int) (v22 : Res) (v24 v25 v27 v28 st : Int) : F ((Int) ⊕ (Unit)) :=
 let v14 := st; 
 .ite (decide (v14 < 2)) (.ite (inR v14 2) ((p0 v27 v28 (rdE EK.int [v6, v10] v14) c got held).bind fun x2 =>
 (p2 v0 v6 v7 v8 v9 v10 v11 v12 v13 v14 c got held v21 v22 v24 v25 v27 v28 (Sid.mk (rdE EK.int [v6, v10] v14) (rdE EK.int [v7, v11] v14) (rdE EK.int [v8, v12] v14) (rdE EK.int [v9, v13] v14)) 2 2 0 2 0 x2).bind fun x4 =>
 .ite (!x4.2.1 == 0) ((p0 v24 v25 (rdE EK.int [v6, v10] v14) c got held).bind fun x6 =>
 (p1 x4.2.2.1 x4.2.2.2 (rdE EK.int [v7, v11] v14) x6 c got held).bind fun _ =>
 (p1 v24 v25 (rdE EK.int [v6, v10] v14) x4.2.1 c got held).bind fun _ =>
 .ret (Sum.inl (w64 (v14 + 1))))
 (.ret (Sum.inl (w64 (v14 + 1)))))
 (.tr .bot))
 (.ret (Sum.inr ()))
abbrev fuseL0Step (v0 v6 v7 v8 v9 v10 v11 v12 v13 : Int) (c : Cfg) (got held : List Int) (v21 : Int) (v22 : Res) (v24 v25 v27 v28 st : Int) := (fuseL0B loadF storeF fuseL1F v0 v6 v7 v8 v9 v10 v11 v12 v13 c got held v21 v22 v24 v25 v27 v28 st).tree
def fuseL0F : fuseL0E.LT := fun v0 v6 v7 v8 v9 v10 v11 v12 v13 c got held v21 v22 v24 v25 v27 v28 s0 => .tr (T.loop (fuseL0Step v0 v6 v7 v8 v9 v10 v11 v12 v13 c got held v21 v22 v24 v25 v27 v28) (got.length + 10) s0)
theorem fuseL0_raw (p0 : loadE.T) (p1 : storeE.T) (p2 : fuseL1E.LT) (x) : fuseL0E.run [nodeAtE.on nodeAtN, loadE.on p0, storeE.on p1, retireE.on retireF, setE.on setF, nextE.on nextF, edgeE.on edgeF, propE.on propF, noneE.on noneF, failedE.on failedN, knownE.on knownF, walkFE.on walkFF, holdFE.on holdFF] [(14, fuseL1E.on p2)] [] x = fuseL0E.go1 fuseL0X (fuseL0B p0 p1 p2 x.1.1 x.1.2.2.2.2.2.2.1.1 x.1.2.2.2.2.2.2.1.2.1 x.1.2.2.2.2.2.2.1.2.2.1 x.1.2.2.2.2.2.2.1.2.2.2.1 x.1.2.2.2.2.2.2.1.2.2.2.2.1 x.1.2.2.2.2.2.2.1.2.2.2.2.2.1 x.1.2.2.2.2.2.2.1.2.2.2.2.2.2.1 x.1.2.2.2.2.2.2.1.2.2.2.2.2.2.2.1 x.2.1.1 x.2.1.2.1 x.2.1.2.2.2.1 x.2.2.2.2.1.1 x.2.2.2.2.2.1.1 x.2.2.2.2.2.2.1.2.1 x.2.2.2.2.2.2.1.2.2.1 x.2.2.2.2.2.2.2.1.2.1 x.2.2.2.2.2.2.2.1.2.2.1 x.1.2.2.2.2.2.2.2.1) x := by kernel_rfl
theorem fuseL0_ok : fuseL0E.Ok fuseL0F := He.k fuseL0X (fun x => x.1.2.2.2.2.2.2.2.1) (fun x s => fuseL0B loadF storeF fuseL1F x.1.1 x.1.2.2.2.2.2.2.1.1 x.1.2.2.2.2.2.2.1.2.1 x.1.2.2.2.2.2.2.1.2.2.1 x.1.2.2.2.2.2.2.1.2.2.2.1 x.1.2.2.2.2.2.2.1.2.2.2.2.1 x.1.2.2.2.2.2.2.1.2.2.2.2.2.1 x.1.2.2.2.2.2.2.1.2.2.2.2.2.2.1 x.1.2.2.2.2.2.2.1.2.2.2.2.2.2.2.1 x.2.1.1 x.2.1.2.1 x.2.1.2.2.2.1 x.2.2.2.2.1.1 x.2.2.2.2.2.1.1 x.2.2.2.2.2.2.1.2.1 x.2.2.2.2.2.2.1.2.2.1 x.2.2.2.2.2.2.2.1.2.1 x.2.2.2.2.2.2.2.1.2.2.1 s) (fo f1 fp) (nodeAt_ok.k (load_ok.k (store_ok.k (retire_ok.k (set_ok.k (next_ok.k (edge_ok.k (prop_ok.k (none_ok.k (failed_ok.k (known_ok.k (walkF_ok.k (holdF_ok.k g0))))))))))))) (lcok (by kernel_rfl) (lhc (by kernel_rfl) fuseL1_ok rfl lsn)) (fuseL0_raw loadF storeF fuseL1F) (fun _ => rfl) (fun _ => rfl) (fun _ _ _ => rfl) (fun _ _ _ => ⟨rfl, rfl⟩)
noncomputable abbrev fuseE : Ge := ⟨50, Tryz.f50, [pm, vi, vi], mach, [.s (.e (.st .res))], mach, machP, Res × List Int, fun x a d => ((a.1, ()), ((x.2.1.1, x.2.1.2.1, (), a.2, ()), d, ())), fun o d => ((o.1.1, o.1.2.1, (), (), ()), d, ()), fun o => o.1.2.1, fun o => o.2.1⟩
def fuseB (p0 : loadE.T) (p1 : storeE.T) (p2 : retireE.T) (p3 : setE.T) (p4 : nextE.T) (p5 : knownE.T) (p6 : walkFE.T) (p7 : holdFE.T) (p8 : fuseL1E.LT) (p9 : fuseL0E.LT) (p10 : fuseL2E.LT) (a b : Int) (c : Cfg) (got held : List Int) : F (Res × List Int) :=
 .ite (a == b) (.ret (Res.mk 5 0 [] [] [], held))
 ((p5 [a, b] c got held).bind fun x0 =>
 .ite (!x0) (.ret (Res.mk 2 0 [] [] [], held))
 ((p7 b [a, b] c got held a 0 0).bind fun b1 => .sel b1 (fun x1 => .ite (!x1.2.1) (.ret (Res.mk 2 0 [] [] [], x1.2.2.1))
 ((p9 b 1 3 1 2 2 4 2 1 c got x1.2.2.1 a (Res.mk 0 0 [] [] []) 1 x1.2.2.2 1 x1.1 0).bind fun _ =>
 (p0 1 x1.1 3 c got x1.2.2.1).bind fun x3 =>
 (p10 b c got x1.2.2.1 (Res.mk 0 0 [] [] []) 1 x1.2.2.2 1 x1.1 3 x3).bind fun _ =>
 (p3 (w64 (b + 1)) 0 c got x1.2.2.1).bind fun _ =>
 (p2 1 x1.1 c got x1.2.2.1).bind fun _ =>
 .ret (Res.mk 0 0 [] [] [], x1.2.2.1)))
 (fun y1 => .ret (Res.mk 2 0 [] [] [], y1.2.1))))
def fuseF : fuseE.T := fuseB loadF storeF retireF setF nextF knownF walkFF holdFF fuseL1F fuseL0F fuseL2F
abbrev fuseTr (a b : Int) (c : Cfg) (got held : List Int) := (fuseF a b c got held).tree
theorem fuse_raw (p0 : loadE.T) (p1 : storeE.T) (p2 : retireE.T) (p3 : setE.T) (p4 : nextE.T) (p5 : knownE.T) (p6 : walkFE.T) (p7 : holdFE.T) (p8 : fuseL1E.LT) (p9 : fuseL0E.LT) (p10 : fuseL2E.LT) (x) : fuseE.run [nodeAtE.on nodeAtN, loadE.on p0, storeE.on p1, retireE.on p2, setE.on p3, nextE.on p4, edgeE.on edgeF, propE.on propF, noneE.on noneF, failedE.on failedN, knownE.on p5, walkFE.on p6, holdFE.on p7] [(14, fuseL1E.on p8), (10, fuseL0E.on p9), (27, fuseL2E.on p10)] [] x = fuseE.go (fuseB p0 p1 p2 p3 p4 p5 p6 p7 p8 p9 p10) x some := by kernel_rfl
theorem fuse_ok : fuseE.Ok fuseF := Ge.k (by kernel_rfl) (nodeAt_ok.k (load_ok.k (store_ok.k (retire_ok.k (set_ok.k (next_ok.k (edge_ok.k (prop_ok.k (none_ok.k (failed_ok.k (known_ok.k (walkF_ok.k (holdF_ok.k g0))))))))))))) (lcok (by kernel_rfl) (lhc (by kernel_rfl) fuseL0_ok rfl (lhc (by kernel_rfl) fuseL1_ok rfl (lhc (by kernel_rfl) fuseL2_ok rfl lsn)))) (fuse_raw loadF storeF retireF setF nextF knownF walkFF holdFF fuseL1F fuseL0F fuseL2F)
noncomputable abbrev programE : Ge := ⟨27, Tryz.f27, [pm, .s (.e (.st .opn))], mach, [.s (.e (.st .res))], mach, machP, Res × List Int, fun x a d => ((a.1, ()), ((x.2.1.1, x.2.1.2.1, (), a.2, ()), d, ())), fun o d => ((o.1.1, o.1.2.1, (), (), ()), d, ()), fun o => o.1.2.1, fun o => o.2.1⟩
def programB (p0 : addE.T) (p1 : linkE.T) (p2 : cutE.T) (p3 : setPropE.T) (p4 : delPropE.T) (p5 : lookPE.T) (p6 : lookNE.T) (p7 : dropE.T) (p8 : fuseE.T) (o : Opn) (c : Cfg) (got held : List Int) : F (Res × List Int) :=
 .ite (o.kind == 1) ((p0 c got held).bind fun x0 =>
 .ret (x0.1, x0.2))
 (.ite (o.kind == 2) ((p1 o.a o.b c got held).bind fun x0 =>
 .ret (x0.1, x0.2))
 (.ite (o.kind == 3) ((p2 o.a c got held).bind fun x0 =>
 .ret (x0.1, x0.2))
 (.ite (o.kind == 4) ((p3 o.a o.k o.v c got held).bind fun x0 =>
 .ret (x0.1, x0.2))
 (.ite (o.kind == 5) ((p4 o.a o.k c got held).bind fun x0 =>
 .ret (x0.1, x0.2))
 (.ite (o.kind == 6) ((p5 o.a c got held).bind fun x0 =>
 .ret (x0, held))
 (.ite (o.kind == 7) ((p6 o.a c got held).bind fun x0 =>
 .ret (x0, held))
 (.ite (o.kind == 8) ((p7 o.a c got held).bind fun x0 =>
 .ret (x0.1, x0.2))
 (.ite (o.kind == 9) ((p8 o.a o.b c got held).bind fun x0 =>
 .ret (x0.1, x0.2))
 (.ret (Res.mk 1 0 [] [] [], held))))))))))
def programF : programE.T := programB addF linkF cutF setPropF delPropF lookPF lookNF dropF fuseF
abbrev programTr (o : Opn) (c : Cfg) (got held : List Int) := (programF o c got held).tree
theorem program_raw (p0 : addE.T) (p1 : linkE.T) (p2 : cutE.T) (p3 : setPropE.T) (p4 : delPropE.T) (p5 : lookPE.T) (p6 : lookNE.T) (p7 : dropE.T) (p8 : fuseE.T) (x) : programE.run [failedE.on failedN, addE.on p0, linkE.on p1, cutE.on p2, setPropE.on p3, delPropE.on p4, lookPE.on p5, lookNE.on p6, dropE.on p7, fuseE.on p8] [] [] x = programE.go (programB p0 p1 p2 p3 p4 p5 p6 p7 p8) x some := by kernel_rfl
theorem program_ok : programE.Ok programF := Ge.k (by kernel_rfl) (failed_ok.k (add_ok.k (link_ok.k (cut_ok.k (setProp_ok.k (delProp_ok.k (lookP_ok.k (lookN_ok.k (drop_ok.k (fuse_ok.k g0)))))))))) (noloopN (by kernel_rfl)) (program_raw addF linkF cutF setPropF delPropF lookPF lookNF dropF fuseF)
set_option linter.unusedSimpArgs false
def sqa : Code → Code
  | .seq a _ => a
  | c => c
def sqb : Code → Code
  | .seq _ b => b
  | c => c
def runB (p0 : doE.T) (p1 : programE.T) (p2 : freeE.T) (c : Cfg) (o : Opn) (got : List Int) : F Res :=
  (p0 ⟨1, 0, 0, 0, 0, 0⟩ c got []).bind fun _ => (p1 o c got []).bind fun x => (p2 c got x.2).bind fun _ => (p0 ⟨2, 0, 0, 0, 0, 0⟩ c got []).bind fun _ => .ret x.1
abbrev runTr (c : Cfg) (o : Opn) (got : List Int) : T Res := (runB doF programF freeF c o got).tree
abbrev rz : Res := ⟨0, 0, [], [], []⟩
def runSp (x : VhL [.s (.e (.st .cfg)), .s (.e (.st .opn)), .s (.e (.sl .int))] × OShL []) : Option (VhL [.s (.e (.sl (.st .acc))), .s (.e (.st .res)), vb] × OShL []) := match (runTr x.1.1 x.1.2.1 x.1.2.2.1).exec x.1.2.2.1 [] with
  | .ok r d => some ((d, r, true, ()), ())
  | .stop d => some ((d, rz, false, ()), ())
  | .bot => none
noncomputable abbrev R0 : Code := sqa (body Tryz.f21)
noncomputable abbrev R1 : Code := sqa (sqb (body Tryz.f21))
noncomputable abbrev R2 : Code := sqa (sqb (sqb (body Tryz.f21)))
noncomputable abbrev R3 : Code := sqa (sqb (sqb (sqb (body Tryz.f21))))
noncomputable abbrev R4 : Code := sqa (sqb (sqb (sqb (sqb (body Tryz.f21)))))
noncomputable abbrev R5 : Code := sqa (sqb (sqb (sqb (sqb (sqb (body Tryz.f21))))))
noncomputable abbrev R6 : Code := sqa (sqb (sqb (sqb (sqb (sqb (sqb (body Tryz.f21)))))))
noncomputable abbrev R7 : Code := sqb (sqb (sqb (sqb (sqb (sqb (sqb (body Tryz.f21)))))))
theorem b21 : body Tryz.f21 = .seq R0 (.seq R1 (.seq R2 (.seq R3 (.seq R4 (.seq R5 (.seq R6 R7)))))) := by kernel_rfl
abbrev vs0 : List Vh := [.s (.e (.st .cfg)), .s (.e (.st .opn)), .s (.e (.sl .int))]
abbrev vs1 : List Vh := [.s (.ptr 0 0), .s (.ptr 1 0), .s (.ptr 2 0), .s (.ptr 3 0), .s (.ptr 4 0)]
abbrev os1 : List OSh := [.box [.e (.st .opn)], .box [.e (.sl (.st .acc))], .box [.e (.st .res)], .box [.e .bool], .box [.ptr 5 0], .box [.e (.st .cfg), .e (.sl .int), .own 6, .sln .int], .arr (.st .acc)]
abbrev runNh : List (Nat × List NilH) := [(1, [(13, some 6, .st .acc)])]
noncomputable def runK1 (e : AEx) (s : St) : Option (VhL vs1 × OShL os1) := match e with
  | .normal => if s.tm.length = Tryz.f21.ntmps then pack 0 vs1 os1 (tmsOf [4, 6, 7, 8, 9] s) s else none
  | _ => none
theorem run_pre (c : Cfg) (o : Opn) (got : List Int) : exec Tryz.prog gl kd [] 0 plan [] runNh (.seq R0 R1) (startSt Tryz.f21.ntmps vs0 [] ((c, o, got, ()), ())) runK1 =
    some (((), (), (), (), (), ()), ((o, ()), ([], ()), (rz, ()), (false, ()), ((), ()), (c, got, (), [], ()), [], ())) := by kernel_rfl
abbrev V3 : List Vh := [.s (.ptr 1 0), .s (.ptr 2 0), .s (.ptr 3 0)]
abbrev os3 : List OSh := [.any, .box [.any], .box [.e (.st .res)], .box [.e .bool], .box [.ptr 5 0], .box [.e (.st .cfg), .e (.sl .int), .own 6, .any], .arr (.st .acc)]
abbrev os3p : List OSh := [.any, .box [.any], .box [.any, .any, .any, .any, .any], .box [.any], .box [.ptr 5 0], .box [.e (.st .cfg), .e (.sl .int), .own 6, .any], .arr (.st .acc)]
abbrev os6 : List OSh := [.any, .box [.any], .box [.e (.st .res)], .box [.any], .box [.ptr 5 0], .box [.e (.st .cfg), .e (.sl .int), .own 6, .any], .arr (.st .acc)]
noncomputable def runK3 (e : AEx) (s : St) : Option ((VhL V3 × OShL os6) ⊕ (VhL V3 × OShL os3p)) := match e with
  | .normal => if s.tm.length = Tryz.f21.ntmps then (pack 7 V3 os6 (tmsOf [6, 7, 8] s) s).map .inl else none
  | .pan (.ifc t (.agg [])) => if t = 59 ∧ s.tm.length = Tryz.f21.ntmps then (pack 7 V3 os3p (tmsOf [6, 7, 8] s) s).map .inr else none
  | _ => none
noncomputable abbrev runC : Code := .seq R3 (.seq R4 (.seq R5 R6))
noncomputable def runK7 (e : AEx) (s : St) : Option (VhL V3 × OShL os3) := match e with
  | .ret => if s.tm.length = Tryz.f21.ntmps then pack 7 V3 os3 (tmsOf [6, 7, 8] s) s else none
  | _ => none
abbrev X6 (c : Cfg) (got : List Int) (r : Res) (d : List Acc) : OShL os6 := ((), ((), ()), (r, ()), ((), ()), ((), ()), (c, got, (), (), ()), d, ())
theorem run_end (c : Cfg) (got : List Int) (r : Res) (d : List Acc) : exec Tryz.prog gl kd [] 7 plan [] [] R7 { tm := Go.Ax.setT Tryz.f21.ntmps (([6, 7, 8] : List Nat).zip (VhL.enc V3 (((), (), (), ()) : VhL V3))), hp := OShL.enc os6 (X6 c got r d) } runK7 =
    some (((), (), (), ()), ((), ((), ()), (r, ()), (true, ()), ((), ()), (c, got, (), (), ()), d, ())) := by kernel_rfl
noncomputable def runS (c : Cfg) (o : Opn) (got : List Int) : St := { tm := Go.Ax.setT Tryz.f21.ntmps (([4, 6, 7, 8, 9] : List Nat).zip (VhL.enc vs1 (((), (), (), (), (), ()) : VhL vs1))), hp := OShL.enc os1 (((o, ()), ([], ()), (rz, ()), (false, ()), ((), ()), (c, got, (), [], ()), [], ()) : OShL os1) }
abbrev runY (c : Cfg) (got : List Int) (r : Res) (d : List Acc) : (VhL V3 × OShL os6) ⊕ (VhL V3 × OShL os3p) := .inl (((), (), (), ()), X6 c got r d)
abbrev runZ (c : Cfg) (got : List Int) (d : List Acc) : (VhL V3 × OShL os6) ⊕ (VhL V3 × OShL os3p) := .inr (((), (), (), ()), ((), ((), ()), ((), (), (), (), (), ()), ((), ()), ((), ()), (c, got, (), (), ()), d, ()))
theorem run_raw (p0 : doE.T) (p1 : programE.T) (p2 : freeE.T) (c : Cfg) (o : Opn) (got : List Int) : exec Tryz.prog gl kd [doE.on p0, programE.on p1, freeE.on p2] 7 plan [] [] runC (runS c o got) runK3 =
    F.run (fun d => some (runZ c got d)) got (runB p0 p1 p2 c o got) (fun r d => some (runY c got r d)) [] := by kernel_rfl
noncomputable abbrev runG : List (Nat × Con) := [doE.on doF, programE.on programF, freeE.on freeF]
theorem run_tree (c : Cfg) (o : Opn) (got : List Int) : exec Tryz.prog gl kd runG 7 plan [] [] runC (runS c o got) runK3 = outG (runY c got) (runZ c got) ((runTr c o got).exec got []) := by
  refine (run_raw ..).trans ?_
  rw [F.run_eq]
  cases (runTr c o got).exec got [] <;> rfl
theorem runG_ok : GOk Tryz.prog gl runG := doF_ok.k (program_ok.k (freeF_ok.k g0))
abbrev cloV : List Vh := [.s (.ptr 0 0), .s (.ptr 1 0), .s (.ptr 2 0), .s (.ptr 3 0)]
abbrev cloO : List OSh := [.box [.ptr 4 0], .box [.any], .box [.e (.st .res)], .box [.e .bool], .box [.e (.st .cfg), .e (.sl .int), .own 5, .any], .arr (.st .acc)]
abbrev cloO1 : List OSh := [.box [.ptr 4 0], .box [.own 5], .box [.e (.st .res)], .box [.e .bool], .box [.e (.st .cfg), .e (.sl .int), .own 5, .any], .arr (.st .acc)]
abbrev cloP : List OSh := [.box [.ptr 4 0], .box [.any], .box [.any, .any, .any, .any, .any], .box [.any], .box [.e (.st .cfg), .e (.sl .int), .own 5, .any], .arr (.st .acc)]
abbrev cloP1 : List OSh := [.box [.ptr 4 0], .box [.own 5], .box [.any, .any, .any, .any, .any], .box [.any], .box [.e (.st .cfg), .e (.sl .int), .own 5, .any], .arr (.st .acc)]
noncomputable abbrev C0 : Code := sqa (body Tryz.f25)
noncomputable abbrev C1 : Code := sqa (sqb (body Tryz.f25))
noncomputable abbrev C2 : Code := sqb (sqb (body Tryz.f25))
theorem b25 : body Tryz.f25 = .seq C0 (.seq C1 C2) := by kernel_rfl
noncomputable def cloK (os : List OSh) (e : AEx) (s : St) : Option (VhL [.s (.ptr 2 0), .s (.ptr 3 0)] × OShL os) := match e with
  | .normal => if s.tm.length = Tryz.f25.ntmps then pack 6 [.s (.ptr 2 0), .s (.ptr 3 0)] os (tmsOf [2, 3] s) s else none
  | _ => none
theorem clo_a (c : Cfg) (got : List Int) (d : List Acc) (r : Res) (b : Bool) : exec Tryz.prog gl kd [] 6 plan [] [] C0 (startSt Tryz.f25.ntmps cloV cloO (((), (), (), (), ()), (((), ()), ((), ()), (r, ()), (b, ()), (c, got, (), (), ()), d, ()))) (cloK cloO1) =
    some (((), (), ()), (((), ()), ((), ()), (r, ()), (b, ()), (c, got, (), (), ()), d, ())) := by kernel_rfl
theorem clo_b (c : Cfg) (got : List Int) (d : List Acc) : exec Tryz.prog gl kd [] 6 plan [] [] C0 (startSt Tryz.f25.ntmps cloV cloP (((), (), (), (), ()), (((), ()), ((), ()), ((), (), (), (), (), ()), ((), ()), (c, got, (), (), ()), d, ()))) (cloK cloP1) =
    some (((), (), ()), (((), ()), ((), ()), ((), (), (), (), (), ()), ((), ()), (c, got, (), (), ()), d, ())) := by kernel_rfl
noncomputable def cloF (e : AEx) (s : St) : Option (VhL [] × OShL cloO1) := match e with
  | .normal => pack 6 [] cloO1 [] s
  | _ => none
theorem clo_c (c : Cfg) (got : List Int) (d : List Acc) : exec Tryz.prog gl kd [] 6 plan [] [] C2 { tm := (((Go.Ax.setT Tryz.f25.ntmps (([2, 3] : List Nat).zip (VhL.enc [.s (.ptr 2 0), .s (.ptr 3 0)] (((), (), ()) : VhL [.s (.ptr 2 0), .s (.ptr 3 0)])))).set 11 (.ifc 59 (.agg []))).set 4 (.ifc 59 (.agg []))), hp := OShL.enc cloP1 ((((), ()), ((), ()), ((), (), (), (), (), ()), ((), ()), (c, got, (), (), ()), d, ()) : OShL cloP1) } cloF =
    some ((), (((), ()), ((), ()), (rz, ()), (false, ()), (c, got, (), (), ()), d, ())) := by kernel_rfl
def modeOf (stopped : Bool) : FrameMode := bif stopped then .panicking [{ v := .iface 59 (.agg #[]), recovered := false }] else .returning
abbrev cloOut (c : Cfg) (got : List Int) (d : List Acc) (r : Res) (b : Bool) : OShL cloO1 := (((), ()), ((), ()), (r, ()), (b, ()), (c, got, (), (), ()), d, ())
section
variable {ρ : List Value} {F L : Nat → Prop} {w : World} {us : Array Value}
noncomputable abbrev cloCr : Con := Con.of cloV cloO [] cloO1 (fun x => some ((), cloOut x.2.2.2.2.2.1.1 x.2.2.2.2.2.1.2.1 x.2.2.2.2.2.2.1 x.2.2.2.1.1 x.2.2.2.2.1.1))
noncomputable abbrev cloCp : Con := Con.of cloV cloP [] cloO1 (fun x => some ((), cloOut x.2.2.2.2.2.1.1 x.2.2.2.2.2.1.2.1 x.2.2.2.2.2.2.1 rz false))
theorem clo_ret : ∀ (av : List AVal) (h : List AObj) (x : cloCr.X) (y : cloCr.Y), cloCr.dec av h = some x → cloCr.spec x = some y → ∀ (ρ : List Value) (F L : Nat → Prop), RepH ρ F L h w → VRs ρ w F (Bx F L) av us.toList → Glo gl w F →
    CallsD Tryz.prog 25 us .returning w fun e u' w' => settle u' = .returning ∧ ∃ ρ' F', OutR (cloCr.out y).1 e ρ' w' F' (Bx F' L) ∧ RepH ρ' F' L (cloCr.out y).2 w' ∧ Stp w (Own ρ h) F w' (Own ρ' (cloCr.out y).2) F' ∧ PK ρ ρ' ∧ ∀ i ∈ cloCr.fix, ρ'[i]? = ρ[i]? := by
  rintro av h ⟨⟨_, _, _, _, _⟩, ⟨_, _⟩, ⟨_, _⟩, ⟨r, _⟩, ⟨b, _⟩, ⟨c, got, _, _, _⟩, d, _⟩ y hd hy ρ F L hR hv hg
  cases hy
  refine callsD_of_wpS (fn := Tryz.f25) (by kernel_rfl) (c := body Tryz.f25) (by kernel_rfl) (fun c₀ cs hu =>?_)
  rw [b25]
  obtain ⟨hn0, hI⟩ := start_inv (nt := Tryz.f25.ntmps) hd hR hv hg false
  refine wpS_seq (wpS_of_wp (wp_mono (exec_sound hm GOk.nil plan_ok hn0 C0 (.inl rfl) (noloopN (by kernel_rfl)) hI (clo_a c got d r b)) (fun ex a w1 q =>?_)))
  cases ex with
  | normal =>
    obtain ⟨s, ρ1, F1, h1, h2⟩ := q
    simp only [cloK] at h2
    split at h2
    · rename_i hn
      obtain ⟨ρ2, F2, h3⟩ := pack_st hn0 h1 hn h2
      have hsz : a.tmps.size = 23 := by
        have := h3.rep.tm.length
        rw [setT_len] at this
        exact (Array.length_toList (xs := a.tmps)) ▸ this.symm
      have hdf := h3.dfs
      simp only [Exit.thenS]
      refine wpS_seq ?_
      simp only [C1, body, Tryz.f25, Option.getD, sqa, sqb]
      apply wpS_region
      simp [wpOpsS, go_sem, recoverD, hu, Exit.thenS, hsz]
      simp only [C2, body, Tryz.f25, Option.getD, sqa, sqb]
      refine wpS_seq ?_
      apply wpS_region
      simp [wpOpsS, go_sem, Exit.thenS, hsz]
      refine wpS_cond (t := false) (by simp [Act.eval, hsz]) ?_
      refine wpS_of_wp (wp_skip ?_)
      refine ⟨hdf, .returning, by rw [← hu], .tuple #[], by simp [results, Tryz.f25], rfl, ρ2, F2, ⟨_, rfl, by simp only [VR, tupV, VhL.enc]; exact ⟨#[], rfl, by simp [VRs]⟩⟩, h3.h, h3.stp, h3.pk⟩
    · cases h2
  | exit i => obtain ⟨s, ρ1, F1, h1, h2⟩ := q; cases h2
  | ret => obtain ⟨s, ρ1, F1, h1, h2⟩ := q; cases h2
  | panic c => obtain ⟨s, ρ1, F1, v, x, h1, h2, h3, h4, h5⟩ := q; cases h5
  | goto l => exact q.elim
  | outgrown => exact q.elim
theorem clo_pan : ∀ (av : List AVal) (h : List AObj) (x : cloCp.X) (y : cloCp.Y), cloCp.dec av h = some x → cloCp.spec x = some y → ∀ (ρ : List Value) (F L : Nat → Prop), RepH ρ F L h w → VRs ρ w F (Bx F L) av us.toList → Glo gl w F →
    CallsD Tryz.prog 25 us (.panicking [{ v := .iface 59 (.agg #[]), recovered := false }]) w fun e u' w' => settle u' = .returning ∧ ∃ ρ' F', OutR (cloCp.out y).1 e ρ' w' F' (Bx F' L) ∧ RepH ρ' F' L (cloCp.out y).2 w' ∧ Stp w (Own ρ h) F w' (Own ρ' (cloCp.out y).2) F' ∧ PK ρ ρ' ∧ ∀ i ∈ cloCp.fix, ρ'[i]? = ρ[i]? := by
  rintro av h ⟨⟨_, _, _, _, _⟩, ⟨_, _⟩, ⟨_, _⟩, ⟨_, _, _, _, _, _⟩, ⟨_, _⟩, ⟨c, got, _, _, _⟩, d, _⟩ y hd hy ρ F L hR hv hg
  cases hy
  refine callsD_of_wpS (fn := Tryz.f25) (by kernel_rfl) (c := body Tryz.f25) (by kernel_rfl) (fun c₀ cs hu =>?_)
  rw [b25]
  obtain ⟨hn0, hI⟩ := start_inv (nt := Tryz.f25.ntmps) hd hR hv hg false
  refine wpS_seq (wpS_of_wp (wp_mono (exec_sound hm GOk.nil plan_ok hn0 C0 (.inl rfl) (noloopN (by kernel_rfl)) hI (clo_b c got d)) (fun ex a w1 q =>?_)))
  cases ex with
  | normal =>
    obtain ⟨s, ρ1, F1, h1, h2⟩ := q
    simp only [cloK] at h2
    split at h2
    · rename_i hn
      obtain ⟨ρ2, F2, h3⟩ := pack_st hn0 h1 hn h2
      have hsz : a.tmps.size = 23 := by
        have := h3.rep.tm.length
        rw [setT_len] at this
        exact (Array.length_toList (xs := a.tmps)) ▸ this.symm
      have hx : VR ρ2 w1 F2 (Bx F2 L) (.ifc 59 (.agg [])) (.iface 59 (.agg #[])) := by simp only [VR]; exact ⟨_, rfl, #[], rfl, by simp [VRs]⟩
      have h4 := (h3.put (some 11) hx).put (some 4) hx
      simp only [Exit.thenS]
      refine wpS_seq ?_
      simp only [C1, body, Tryz.f25, Option.getD, sqa, sqb]
      apply wpS_region
      simp [wpOpsS, go_sem, recoverD, hu, Exit.thenS, hsz]
      refine wpS_of_wp (wp_mono (exec_sound hm GOk.nil plan_ok hn0 C2 (.inl rfl) (noloopN (by kernel_rfl)) h4 (clo_c c got d)) (fun ex a2 w2 q =>?_))
      cases ex with
      | normal =>
        obtain ⟨s5, ρ5, F5, h5, h6⟩ := q
        obtain ⟨ρ6, F6, h7, _⟩ := pack_sound hn0 h5.rep h5.toInvH (vals := []) (us := []) (by simp [VRs]) h6
        exact ⟨h5.dfs, _, rfl, .tuple #[], by simp [results, Tryz.f25], rfl, ρ6, F6, ⟨_, rfl, by simp only [VR, tupV, VhL.enc]; exact ⟨#[], rfl, by simp [VRs]⟩⟩, h7.h, h7.stp, h7.pk⟩
      | exit i => obtain ⟨s, ρ1, F1, h1, h2⟩ := q; cases h2
      | ret => obtain ⟨s, ρ1, F1, h1, h2⟩ := q; cases h2
      | panic c => obtain ⟨s, ρ1, F1, v, x, h1, h2, h3, h4, h5⟩ := q; cases h5
      | goto l => exact q.elim
      | outgrown => exact q.elim
    · cases h2
  | exit i => obtain ⟨s, ρ1, F1, h1, h2⟩ := q; cases h2
  | ret => obtain ⟨s, ρ1, F1, h1, h2⟩ := q; cases h2
  | panic c => obtain ⟨s, ρ1, F1, v, x, h1, h2, h3, h4, h5⟩ := q; cases h5
  | goto l => exact q.elim
  | outgrown => exact q.elim
end
abbrev X3 (c : Cfg) (got : List Int) (r : Res) (d : List Acc) : OShL os3 := ((), ((), ()), (r, ()), (true, ()), ((), ()), (c, got, (), (), ()), d, ())
abbrev X3p (c : Cfg) (got : List Int) (d : List Acc) : OShL os3p := ((), ((), ()), ((), (), (), (), (), ()), ((), ()), ((), ()), (c, got, (), (), ()), d, ())
abbrev runRs : List Vh := [.s (.e (.sl (.st .acc))), .s (.e (.st .res)), vb]
def ptrV (b : Nat) : Value := .pointer (some ⟨b, 0, none⟩)
abbrev cloAs : List AVal := [.ptr 4 0, .ptr 1 0, .ptr 2 0, .ptr 3 0]
noncomputable abbrev endS (hp : List AObj) : St := { tm := Go.Ax.setT Tryz.f21.ntmps [(6, .ptr 1 0), (7, .ptr 2 0), (8, .ptr 3 0)], hp := hp }
section
variable {E E' : Ent} {ρ3 : List Value} {F3 : Nat → Prop} {w3 : World} {tmps : Array Value} {b6 b7 b8 b9 : Nat}
theorem leave {stopped : Bool} {C : Con} {hp : List AObj} (hE : E.ρ.length = 0) (hD : E.D = []) (hL : E'.L = E.L) (hEE : Stp E.w E.O E.F E'.w E'.O E'.F) (hI : InvH gl E' hp w3 ρ3 F3)
    (k1 : ρ3[1]? = some (ptrV b6)) (k2 : ρ3[2]? = some (ptrV b7)) (k3 : ρ3[3]? = some (ptrV b8)) (k4 : ρ3[4]? = some (ptrV b9)) (t6 : tmps[6]? = some (ptrV b6)) (t7 : tmps[7]? = some (ptrV b7)) (t8 : tmps[8]? = some (ptrV b8)) (hsz : tmps.size = Tryz.f21.ntmps)
    (hC : ∀ (av : List AVal) (h : List AObj) (x : C.X) (y : C.Y), C.dec av h = some x → C.spec x = some y → ∀ (ρ : List Value) (F L : Nat → Prop), RepH ρ F L h w3 → VRs ρ w3 F (Bx F L) av (#[ptrV b9, ptrV b6, ptrV b7, ptrV b8] : Array Value).toList → Glo gl w3 F →
      CallsD Tryz.prog 25 #[ptrV b9, ptrV b6, ptrV b7, ptrV b8] (modeOf stopped) w3 fun e u' w' => settle u' = .returning ∧ ∃ ρ' F', OutR (C.out y).1 e ρ' w' F' (Bx F' L) ∧ RepH ρ' F' L (C.out y).2 w' ∧ Stp w3 (Own ρ h) F w' (Own ρ' (C.out y).2) F' ∧ PK ρ ρ' ∧ ∀ i ∈ C.fix, ρ'[i]? = ρ[i]?)
    {p : St × List Nat × C.X} (hp : prep C cloAs { tm := [], hp := hp } = some p) {y : C.Y} (hy : C.spec p.2.2 = some y) (hlen : p.2.1.length ≤ (C.out y).2.length) (hret : ∃ v, (C.out y).1 = .ret v)
    {z : VhL runRs × OShL []} (hz : ((resL Tryz.prog (endS (after p.1 p.2.1 C.fix (C.out y).2).hp) Tryz.f21.results.toList).bind fun vals => pack 0 runRs [] vals (endS (after p.1 p.2.1 C.fix (C.out y).2).hp)) = some z) :
    Leaves Tryz.prog Tryz.f21 tmps (EndR gl E (.ret (tupV (VhL.enc runRs z.1)), OShL.enc [] z.2)) [{ target := .fn (.func 25) #[ptrV b9, ptrV b6, ptrV b7, ptrV b8], args := #[] }] (modeOf stopped) w3 := by
  refine leaves_cons (f := 25) (args := #[ptrV b9, ptrV b6, ptrV b7, ptrV b8]) (by cases stopped <;> simp [modeOf]) (by simp [invoke, run_callFunc (⟨Tryz.f25, body Tryz.f25, by kernel_rfl, by kernel_rfl, by kernel_rfl⟩ : Callable Tryz.prog 25)]) ?_
  have hv : VRs ρ3 w3 F3 (Bx F3 E'.L) cloAs (#[ptrV b9, ptrV b6, ptrV b7, ptrV b8] : Array Value).toList := by
    simp only [cloAs, VRs, VR, and_true]
    exact ⟨⟨b9, k4, rfl⟩, ⟨b6, k1, rfl⟩, ⟨b7, k2, rfl⟩, b8, k3, rfl⟩
  refine (call_soundW (W := fun R => CallsD Tryz.prog 25 #[ptrV b9, ptrV b6, ptrV b7, ptrV b8] (modeOf stopped) w3 (fun e u' w' => settle u' = .returning ∧ R e w')) (fun R R' h hr => h.mono (fun e u' w' q => ⟨q.1, hr e w' q.2⟩)) hC hI.h.rep hI.glo hv hp hy hlen).mono ?_
  rintro e u' w4 ⟨hu, ρ4, F4, o1, o2, o3, o4, o5, o6⟩
  obtain ⟨v, hret⟩ := hret
  rw [hret] at o1
  obtain ⟨x, rfl, o1⟩ := o1
  dsimp only
  rw [hu]
  have hg4 : Glo gl w4 F4 := hI.glo.stp (s := { tm := [], hp := _ }) hI.h o3
  have hI4 : Inv gl E (endS (after p.1 p.2.1 C.fix (C.out y).2).hp) { tmps := tmps, defers := [] } w4 ρ4 F4 := by
    refine .of ⟨setT_sound (by simpa using hsz) (fun q hq =>?_), ?_⟩ ?_ (fun n x hx =>?_) hg4 hD.symm
    · simp only [List.mem_cons, List.not_mem_nil, or_false] at hq
      rcases hq with rfl | rfl | rfl
      · simp only [VR]
        exact ⟨b6, o4 _ _ k1, by simp [List.getD_eq_getElem?_getD, t6, ptrV]⟩
      · simp only [VR]
        exact ⟨b7, o4 _ _ k2, by simp [List.getD_eq_getElem?_getD, t7, ptrV]⟩
      · simp only [VR]
        exact ⟨b8, o4 _ _ k3, by simp [List.getD_eq_getElem?_getD, t8, ptrV]⟩
    · rw [← hL]
      exact o2.h
    · exact hEE.trans (hI.stp.trans o3)
    · have := (List.getElem?_eq_some_iff.1 hx).1
      omega
  obtain ⟨_, v', h1, h2⟩ := ret_end (P := Tryz.prog) (fn := Tryz.f21) (res := Tryz.f21.results.toList) (by simp) hE hD hI4 hz
  exact ⟨v', h1, h2⟩
end
theorem prep_ret (c : Cfg) (got : List Int) (r : Res) (d : List Acc) : prep cloCr cloAs { tm := [], hp := OShL.enc os3 (X3 c got r d) } = some ({ tm := [], hp := OShL.enc os3 (X3 c got r d) }, [4, 1, 2, 3, 5, 6], (((), (), (), (), ()), (((), ()), ((), ()), (r, ()), (true, ()), (c, got, (), (), ()), d, ()))) := by kernel_rfl
theorem prep_pan (c : Cfg) (got : List Int) (d : List Acc) : prep cloCp cloAs { tm := [], hp := OShL.enc os3p (X3p c got d) } = some ({ tm := [], hp := OShL.enc os3p (X3p c got d) }, [4, 1, 2, 3, 5, 6], (((), (), (), (), ()), (((), ()), ((), ()), ((), (), (), (), (), ()), ((), ()), (c, got, (), (), ()), d, ()))) := by kernel_rfl
theorem res_ret (c : Cfg) (got : List Int) (r : Res) (d : List Acc) : ((resL Tryz.prog (endS (after { tm := [], hp := OShL.enc os3 (X3 c got r d) } [4, 1, 2, 3, 5, 6] [] (OShL.enc cloO1 (cloOut c got d r true))).hp) Tryz.f21.results.toList).bind fun vals => pack 0 runRs [] vals (endS (after { tm := [], hp := OShL.enc os3 (X3 c got r d) } [4, 1, 2, 3, 5, 6] [] (OShL.enc cloO1 (cloOut c got d r true))).hp)) = some ((d, r, true, ()), ()) := by kernel_rfl
theorem res_pan (c : Cfg) (got : List Int) (d : List Acc) : ((resL Tryz.prog (endS (after { tm := [], hp := OShL.enc os3p (X3p c got d) } [4, 1, 2, 3, 5, 6] [] (OShL.enc cloO1 (cloOut c got d rz false))).hp) Tryz.f21.results.toList).bind fun vals => pack 0 runRs [] vals (endS (after { tm := [], hp := OShL.enc os3p (X3p c got d) } [4, 1, 2, 3, 5, 6] [] (OShL.enc cloO1 (cloOut c got d rz false))).hp)) = some ((d, rz, false, ()), ()) := by kernel_rfl
theorem nodraw3 : noDraw R3 = true ∧ noDraw R4 = true ∧ noDraw R5 = true ∧ noDraw R6 = true := ⟨by kernel_rfl, by kernel_rfl, by kernel_rfl, by kernel_rfl⟩
theorem run_ok0 : Sound Tryz.prog gl 21 (Con.of vs0 [] runRs [] runSp) := by
  rintro av h ⟨⟨c, o, got, _⟩, _⟩ y hd hy ρ F L w us hR hv hg
  obtain ⟨hn0, hI⟩ := start_inv (nt := Tryz.f21.ntmps) hd hR hv hg false
  refine (calls_of_wp_defers (fn := Tryz.f21) (by kernel_rfl) (c := body Tryz.f21) (by kernel_rfl) (R := EndR gl ⟨ρ, w, Own ρ h, F, L, [], false⟩ (.ret (tupV (VhL.enc runRs y.1)), OShL.enc [] y.2)) ?_).mono ?_
  rotate_left
  · rintro e w' ⟨ρ', F', k1, k2⟩
    exact ⟨ρ', F', k1, k2.h, k2.stp, k2.pk, fun i hi => nomatch hi⟩
  rw [b21]
  have hz := run_pre c o got
  simp only [exec] at hz
  refine wp_seq (wp_mono (exec_sound hm GOk.nil plan_ok hn0 R0 (.inl rfl) (noloopN (by kernel_rfl)) hI hz) (fun ex a1 w1 q =>?_))
  cases ex with
  | exit i => obtain ⟨s, ρ1, F1, h1, h2⟩ := q; cases h2
  | ret => obtain ⟨s, ρ1, F1, h1, h2⟩ := q; cases h2
  | panic c => obtain ⟨s, ρ1, F1, v, x, h1, h2, h3, h4, h5⟩ := q; cases h5
  | goto l => exact q.elim
  | outgrown => exact q.elim
  | normal =>
    obtain ⟨s1, ρ1, F1, h1, h2⟩ := q
    refine wp_seq (wp_mono (exec_sound hm GOk.nil plan_ok hn0 R1 (.inl rfl) (noloopN (by kernel_rfl)) h1 h2) (fun ex a2 w2 q =>?_))
    cases ex with
    | exit i => obtain ⟨s, ρ1, F1, h1, h2⟩ := q; cases h2
    | ret => obtain ⟨s, ρ1, F1, h1, h2⟩ := q; cases h2
    | panic c => obtain ⟨s, ρ1, F1, v, x, h1, h2, h3, h4, h5⟩ := q; cases h5
    | goto l => exact q.elim
    | outgrown => exact q.elim
    | normal =>
      obtain ⟨s2, ρ2, F2, h3, h4⟩ := q
      simp only [runK1] at h4
      split at h4
      case isFalse => cases h4
      rename_i hn
      obtain ⟨ρ3, F3, h5⟩ := pack_st hn0 h3 hn h4
      have hdf := h5.dfs
      have hsz : a2.tmps.size = 27 := by
        have := h5.rep.tm.length
        rw [setT_len] at this
        exact (Array.length_toList (xs := a2.tmps)) ▸ this.symm
      have ht := fun t => h5.rep.tm.getD t undef
      have h6 := ht 6
      have h7 := ht 7
      have h8 := ht 8
      have h9 := ht 9
      have e6 : (Go.Ax.setT Tryz.f21.ntmps (([4, 6, 7, 8, 9] : List Nat).zip (VhL.enc vs1 (((), (), (), (), (), ()) : VhL vs1)))).getD 6 .any = .ptr 1 0 := by kernel_rfl
      have e7 : (Go.Ax.setT Tryz.f21.ntmps (([4, 6, 7, 8, 9] : List Nat).zip (VhL.enc vs1 (((), (), (), (), (), ()) : VhL vs1)))).getD 7 .any = .ptr 2 0 := by kernel_rfl
      have e8 : (Go.Ax.setT Tryz.f21.ntmps (([4, 6, 7, 8, 9] : List Nat).zip (VhL.enc vs1 (((), (), (), (), (), ()) : VhL vs1)))).getD 8 .any = .ptr 3 0 := by kernel_rfl
      have e9 : (Go.Ax.setT Tryz.f21.ntmps (([4, 6, 7, 8, 9] : List Nat).zip (VhL.enc vs1 (((), (), (), (), (), ()) : VhL vs1)))).getD 9 .any = .ptr 4 0 := by kernel_rfl
      dsimp only at h6 h7 h8 h9
      rw [e6] at h6
      rw [e7] at h7
      rw [e8] at h8
      rw [e9] at h9
      simp only [VR] at h6 h7 h8 h9
      obtain ⟨b6, k6, h6⟩ := h6
      obtain ⟨b7, k7, h7⟩ := h7
      obtain ⟨b8, k8, h8⟩ := h8
      obtain ⟨b9, k9, h9⟩ := h9
      have g6 : a2.tmps[6]? = some (ptrV b6) := by
        rw [List.getD_eq_getElem?_getD, Array.getElem?_toList] at h6
        rw [Array.getElem?_eq_getElem (by omega)] at h6 ⊢
        exact congrArg some h6
      have g7 : a2.tmps[7]? = some (ptrV b7) := by
        rw [List.getD_eq_getElem?_getD, Array.getElem?_toList] at h7
        rw [Array.getElem?_eq_getElem (by omega)] at h7 ⊢
        exact congrArg some h7
      have g8 : a2.tmps[8]? = some (ptrV b8) := by
        rw [List.getD_eq_getElem?_getD, Array.getElem?_toList] at h8
        rw [Array.getElem?_eq_getElem (by omega)] at h8 ⊢
        exact congrArg some h8
      have g9 : a2.tmps[9]? = some (ptrV b9) := by
        rw [List.getD_eq_getElem?_getD, Array.getElem?_toList] at h9
        rw [Array.getElem?_eq_getElem (by omega)] at h9 ⊢
        exact congrArg some h9
      simp only [Exit.then]
      refine wp_seq ?_
      have e2 : R2 = .region 2 #[{ dst := some 14, op := Op.makeFunc (Fn.func 25) #[] #[Operand.tmp 9, Operand.tmp 6, Operand.tmp 7, Operand.tmp 8], type := 1, pos := "code.go:477", after := #[], guard := none },
        { dst := none, op := Op.defer { callee := Callee.value (Operand.tmp 14), args := #[], argTypes := #[] }, type := 0, pos := "code.go:477", after := #[{ on := 0, ground := Ground.data }], guard := none }] false := by kernel_rfl
      rw [e2]
      have hmf : ∀ (fn : Fn) (first cap : Array Value) (w : World), (Instr.makeFunc fn first cap).run Tryz.prog w = .ok (.func fn first cap) w := fun _ _ _ _ => rfl
      have q6 := (Array.getElem?_eq_some_iff.1 g6).2
      have q7 := (Array.getElem?_eq_some_iff.1 g7).2
      have q8 := (Array.getElem?_eq_some_iff.1 g8).2
      have q9 := (Array.getElem?_eq_some_iff.1 g9).2
      refine wp_region_list ?_
      simp [wpList, Oper.wp, go_sem, Region.wanted, execOp, hmf, q6, q7, q8, q9, hsz, Oper.upon]
      refine .inl (.inl ?_)
      -- what is done meanwhile is deferred
      have hD : a2.defers = [] := hdf
      rw [hD]
      let dd : Deferred := { target := Target.fn (Fn.func 25) #[ptrV b9, ptrV b6, ptrV b7, ptrV b8], args := #[] }
      let E' : Ent := ⟨ρ3, w2, Own ρ3 (runS c o got).hp, F3, L, [dd], true⟩
      have hI' : Inv gl E' (runS c o got) { tmps := a2.tmps.setIfInBounds 14 (Value.func (Fn.func 25) #[] #[ptrV b9, ptrV b6, ptrV b7, ptrV b8]), defers := [dd] } w2 ρ3 F3 := by
        have hp := h5.put (some 14) (x := .any) (v := Value.func (Fn.func 25) #[] #[ptrV b9, ptrV b6, ptrV b7, ptrV b8]) (by simp [VR])
        have es : (St.put { tm := Go.Ax.setT Tryz.f21.ntmps (([4, 6, 7, 8, 9] : List Nat).zip (VhL.enc vs1 (((), (), (), (), (), ()) : VhL vs1))), hp := OShL.enc os1 (((o, ()), ([], ()), (rz, ()), (false, ()), ((), ()), (c, got, (), [], ()), [], ()) : OShL os1) } (some 14) .any) = runS c o got := by kernel_rfl
        rw [es] at hp
        exact .of ⟨hp.rep.tm, hp.h⟩ (.refl _ _ _) (.refl _) hp.glo rfl
      have hn7 : E'.ρ.length = 7 := hI'.h.len
      have hL3 : Stp w (Own ρ h) F E'.w E'.O E'.F := h5.stp
      have hrt := run_tree c o got
      have hn27 : ∀ {a : Act} {s : St} {w : World} {ρ : List Value} {F : Nat → Prop}, VRs ρ w F (Bx F L) s.tm a.tmps.toList → s.tm.length = Tryz.f21.ntmps → a.tmps.size = Tryz.f21.ntmps := fun h1 h2 => by
        have := h1.length
        rw [h2] at this
        simpa using this.symm
      have t3 : ∀ {a : Act} {w : World} {ρ4 : List Value} {F : Nat → Prop}, a.tmps.size = Tryz.f21.ntmps → PK ρ3 ρ4 → VRs ρ4 w F (Bx F L) (VhL.enc V3 (((), (), (), ()) : VhL V3)) (([6, 7, 8] : List Nat).map fun t => a.tmps.toList.getD t undef) →
          a.tmps[6]? = some (ptrV b6) ∧ a.tmps[7]? = some (ptrV b7) ∧ a.tmps[8]? = some (ptrV b8) := fun {a w ρ4 F} hs hk hv => by
        have hs' : a.tmps.size = 27 := hs
        simp only [VhL.enc, Vh.enc, Sh.enc, List.map_cons, List.map_nil, VRs, VR, and_true] at hv
        obtain ⟨⟨c6, j6, i6⟩, ⟨c7, j7, i7⟩, c8, j8, i8⟩ := hv
        have e6 := hk _ _ k6
        have e7 := hk _ _ k7
        have e8 := hk _ _ k8
        rw [j6] at e6
        rw [j7] at e7
        rw [j8] at e8
        cases e6
        cases e7
        cases e8
        refine ⟨?_, ?_, ?_⟩
        · rw [List.getD_eq_getElem?_getD, Array.getElem?_toList, Array.getElem?_eq_getElem (by omega)] at i6
          rw [Array.getElem?_eq_getElem (by omega)]
          exact congrArg some i6
        · rw [List.getD_eq_getElem?_getD, Array.getElem?_toList, Array.getElem?_eq_getElem (by omega)] at i7
          rw [Array.getElem?_eq_getElem (by omega)]
          exact congrArg some i7
        · rw [List.getD_eq_getElem?_getD, Array.getElem?_toList, Array.getElem?_eq_getElem (by omega)] at i8
          rw [Array.getElem?_eq_getElem (by omega)]
          exact congrArg some i8
      have main : ∀ z, exec Tryz.prog gl kd runG 7 plan [] [] runC (runS c o got) runK3 = some z → (∀ ex a w', ex ≠ .normal → QK gl E' (fun e s => runK3 e s = some z) ex a w' → bodyPostD Tryz.prog Tryz.f21 (EndR gl ⟨ρ, w, Own ρ h, F, L, [], false⟩ (.ret (tupV (VhL.enc runRs y.1)), OShL.enc [] y.2)) ex a w') →
          (∀ s a w' ρ' F', Inv gl E' s a w' ρ' F' → runK3 .normal s = some z → R7.wp Tryz.prog (bodyPostD Tryz.prog Tryz.f21 (EndR gl ⟨ρ, w, Own ρ h, F, L, [], false⟩ (.ret (tupV (VhL.enc runRs y.1)), OShL.enc [] y.2))) a w') →
          Code.wp Tryz.prog (R3.seq (R4.seq (R5.seq (R6.seq R7)))) (bodyPostD Tryz.prog Tryz.f21 (EndR gl ⟨ρ, w, Own ρ h, F, L, [], false⟩ (.ret (tupV (VhL.enc runRs y.1)), OShL.enc [] y.2))) { tmps := a2.tmps.setIfInBounds 14 (Value.func (Fn.func 25) #[] #[ptrV b9, ptrV b6, ptrV b7, ptrV b8]), defers := [dd] } w2 := fun z hz hQ hN => by
        refine seq_sound hm runG_ok plan_ok hn7 (noloopN (by kernel_rfl)) (.inr nodraw3.1) hI' hz (fun s a w ρ F hI hz =>?_) hQ
        refine seq_sound hm runG_ok plan_ok hn7 (noloopN (by kernel_rfl)) (.inr nodraw3.2.1) hI hz (fun s a w ρ F hI hz =>?_) hQ
        refine seq_sound hm runG_ok plan_ok hn7 (noloopN (by kernel_rfl)) (.inr nodraw3.2.2.1) hI hz (fun s a w ρ F hI hz =>?_) hQ
        refine wp_seq (wp_mono (exec_sound hm runG_ok plan_ok hn7 R6 (.inr nodraw3.2.2.2) (noloopN (by kernel_rfl)) hI hz) (fun ex a w q =>?_))
        cases ex with
        | normal => obtain ⟨s, ρ1, F1, h1, h2⟩ := q; exact hN _ _ _ _ _ h1 h2
        | exit i => exact hQ _ _ _ (by simp) q
        | ret => exact hQ _ _ _ (by simp) q
        | panic c => exact hQ _ _ _ (by simp) q
        | goto l => exact hQ _ _ _ (by simp) q
        | outgrown => exact hQ _ _ _ (by simp) q
      cases hX : (runTr c o got).exec got [] with
      | bot => simp [runSp, hX] at hy
      | ok r d =>
        rw [hX] at hrt
        simp only [outG] at hrt
        have hy' : y = ((d, r, true, ()), ()) := by
          simp [runSp, hX] at hy
          exact hy.symm
        subst hy'
        refine main _ hrt (fun ex a w' hne q =>?_) (fun s a w4 ρ4 F4 i1 i2 =>?_)
        · cases ex with
          | normal => exact absurd rfl hne
          | exit i => obtain ⟨s, ρ1, F1, h1, h2⟩ := q; cases h2
          | ret => obtain ⟨s, ρ1, F1, h1, h2⟩ := q; cases h2
          | panic ch =>
            obtain ⟨s, ρ4, F4, v, x, i1, i2, i3, i4, i5⟩ := q
            exfalso
            unfold runK3 at i5
            split at i5
            · rename_i e; cases e
            · split at i5
              · obtain ⟨_, _, i6⟩ := Option.map_eq_some_iff.1 i5; cases i6
              · cases i5
            · cases i5
          | goto l => exact q.elim
          | outgrown => exact q.elim
        · simp only [runK3] at i2
          split at i2
          case isFalse => cases i2
          rename_i hn4
          obtain ⟨x4, i3, i4⟩ := Option.map_eq_some_iff.1 i2
          cases i4
          obtain ⟨ρ5, F5, i5⟩ := pack_st hn7 i1 hn4 i3
          refine wp_mono (exec_sound hm GOk.nil plan_ok (E := { E' with full := false }) hn7 R7 (.inl rfl) (noloopN (by kernel_rfl)) (i5.flag false) (run_end c got r d)) (fun ex a5 w5 q =>?_)
          cases ex with
          | normal => obtain ⟨s, ρ1, F1, h1, h2⟩ := q; cases h2
          | exit i => obtain ⟨s, ρ1, F1, h1, h2⟩ := q; cases h2
          | ret =>
            obtain ⟨s6, ρ6, F6, h1, h2⟩ := q
            simp only [runK7] at h2
            split at h2
            case isFalse => cases h2
            rename_i hn6
            obtain ⟨ρ7, F7, m1, m2⟩ := pack_sound (E := { E' with full := false }) hn7 h1.rep h1.toInvH (tms_sound h1 [6, 7, 8]) h2
            have hz7 := hn27 h1.rep.tm hn6
            obtain ⟨z6, z7, z8⟩ := t3 hz7 m1.pk m2
            show Leaves _ _ _ _ _ _ _
            rw [show a5.defers = [dd] from h1.dfs]
            exact leave (stopped := false) (E := ⟨ρ, w, Own ρ h, F, L, [], false⟩) (E' := { E' with full := false }) (C := cloCr) hn0 rfl rfl hL3 m1 (m1.pk _ _ k6) (m1.pk _ _ k7) (m1.pk _ _ k8) (m1.pk _ _ k9) z6 z7 z8 hz7 clo_ret (prep_ret c got r d) rfl (Nat.le_refl 6) ⟨_, rfl⟩ (res_ret c got r d)
          | panic c => obtain ⟨s, ρ1, F1, v, x, h1, h2, h3, h4, h5⟩ := q; cases h5
          | goto l => exact q.elim
          | outgrown => exact q.elim
      | stop d =>
        rw [hX] at hrt
        simp only [outG] at hrt
        have hy' : y = ((d, rz, false, ()), ()) := by
          simp [runSp, hX] at hy
          exact hy.symm
        subst hy'
        refine main _ hrt (fun ex a w' hne q =>?_) (fun s a w4 ρ4 F4 i1 i2 =>?_)
        · cases ex with
          | normal => exact absurd rfl hne
          | exit i => obtain ⟨s, ρ1, F1, h1, h2⟩ := q; cases h2
          | ret => obtain ⟨s, ρ1, F1, h1, h2⟩ := q; cases h2
          | panic ch =>
            obtain ⟨s, ρ4, F4, v, x, i1, i2, i3, i4, i5⟩ := q
            unfold runK3 at i5
            split at i5
            · rename_i e; cases e
            · rename_i t e
              cases e
              split at i5
              case isFalse => cases i5
              rename_i ht
              obtain ⟨ht, hn4⟩ := ht
              subst ht
              obtain ⟨x4, i6, i7⟩ := Option.map_eq_some_iff.1 i5
              cases i7
              have htm := i2.2 rfl
              have hz7 := hn27 htm hn4
              have hI4 : Inv gl E' s a w' ρ4 F4 := .of ⟨htm, i2.1.h⟩ i2.1.stp i2.1.pk i2.1.glo i1
              obtain ⟨ρ7, F7, m1, m2⟩ := pack_sound hn7 hI4.rep hI4.toInvH (tms_sound hI4 [6, 7, 8]) i6
              obtain ⟨z6, z7, z8⟩ := t3 hz7 m1.pk m2
              simp only [VR] at i4
              obtain ⟨u, rfl, cs, rfl, i4⟩ := i4
              have hcs : cs = #[] := by
                have := i4.length
                simp at this
                exact Array.eq_empty_of_size_eq_zero this.symm
              subst hcs
              subst i3
              show Leaves _ _ _ _ _ _ _
              rw [show a.defers = [dd] from i1]
              exact leave (stopped := true) (E := ⟨ρ, w, Own ρ h, F, L, [], false⟩) (E' := E') (C := cloCp) hn0 rfl rfl hL3 m1 (m1.pk _ _ k6) (m1.pk _ _ k7) (m1.pk _ _ k8) (m1.pk _ _ k9) z6 z7 z8 hz7 clo_pan (prep_pan c got d) rfl (Nat.le_refl 6) ⟨_, rfl⟩ (res_pan c got d)
            · cases i5
          | goto l => exact q.elim
          | outgrown => exact q.elim
        · simp only [runK3] at i2
          split at i2
          case isFalse => cases i2
          obtain ⟨x4, i3, i4⟩ := Option.map_eq_some_iff.1 i2
          cases i4
def goTr (c : Cfg) (o : Opn) (got : List Int) : T (List Acc × Res × Bool) := match (runTr c o got).exec got [] with
  | .ok r d => .ret (d, r, true)
  | .stop d => .ret (d, rz, false)
  | .bot => .bot
@[reducible] def runI : PIf (VhL vs0 × OShL []) (VhL runRs × OShL []) where
  α := List Acc × Res × Bool
  tr x := goTr x.1.1 x.1.2.1 x.1.2.2.1
  enc _ a := ((a.1, a.2.1, a.2.2, ()), ())
theorem run_ok : Sound Tryz.prog gl 21 (Con.of vs0 [] runRs [] (PIf.spec runI)) := by
  have h : PIf.spec runI = runSp := by
    funext x
    unfold PIf.spec runSp
    simp only [runI, goTr, T.val]
    cases (runTr x.1.1 x.1.2.1 x.1.2.2.1).exec x.1.2.2.1 [] <;> rfl
  rw [h]
  exact run_ok0
end Go.Ax.Cd
