/- The package code by contracts (printed by wip/tools/con3.py). -/
import Derived.Test.YteoeolfcpmalfaaGreatDoorQ29
import Derived.Test.YteoeolfcpmalfaaGreatDoorQ30
import Derived.Test.YteoeolfcpmalfaaGreatDoorQ31
namespace Go.Ax.Cd
open Go.Proofs
set_option linter.unusedVariables false
set_option maxRecDepth 100000
abbrev fuseL2vs : List Vh := [vi, .s (.ptr 2 0), .s (.ptr 3 0), .s (.ptr 4 0), .s (.ptr 5 0), .s (.ptr 6 0)]
abbrev fuseL2os : List OSh := [.box [.e (.st .cfg), .e (.sl .int), .own 1, .sln .int], .arr (.st .acc), .box [.ptr 0 0], .box [.e (.st .res)], .box [.ptr 0 0, .e .int, .e .int], .box [.ptr 0 0, .e .int, .e .int], .box [.ptr 0 0, .e .int, .e .int]]
noncomputable abbrev fuseL2fin : Fin := ((Fin.one 2 Tryz.f50.ntmps (.exit 4) [2, 3, 6, 8] [vi, .s (.ptr 2 0), .s (.ptr 3 0), .s (.ptr 4 0)] [.box [.e (.st .cfg), .e (.sl .int), .own 1, .sln .int], .arr (.st .acc), .box [.ptr 0 0], .box [.e (.st .res)], .box [.ptr 0 0, .e .int, .e .int]]).or (Fin.pan 2 59 (.agg []) machP))
def fuseL2Step (v0 : Int) (c : Cfg) (got : List Int) (held : List Int) (v12 : Res) (v14 : Int) (v15 : Int) (v17 : Int) (v18 : Int) (v20 : Int) (st : Int) : T ((Int) ⊕ (Unit)) :=
 let v21 := st
 bif !v21 == 0 then
 (loadTr v20 v21 0 c got held).bind fun x1 =>
 (nextTr v20 v21 2 c got held).bind fun x2 =>
 (loadTr v14 v15 3 c got held).bind fun x3 =>
 (walkFTr 3 x3 c got held x1).bind fun x5 =>
 bif x5 then
 (retireTr v20 v21 c got held).bind fun _ =>
 .ret (Sum.inl x2)
 else
 (storeTr v20 v21 2 x3 c got held).bind fun _ =>
 (storeTr v14 v15 3 v21 c got held).bind fun _ =>
 .ret (Sum.inl x2)
 else
 .ret (Sum.inr ())
@[reducible] def fuseL2I : Ifc (VhL fuseL2vs × OShL fuseL2os) fuseL2fin.Y where
  α := Unit
  tr x := T.loop (fuseL2Step x.1.1 x.2.1.1 x.2.1.2.1 x.2.1.2.2.2.1 x.2.2.2.2.1.1 x.2.2.2.2.2.1.2.1 x.2.2.2.2.2.1.2.2.1 x.2.2.2.2.2.2.1.2.1 x.2.2.2.2.2.2.1.2.2.1 x.2.2.2.2.2.2.2.1.2.1) (x.2.1.2.1.length + 10) x.2.2.2.2.2.2.2.1.2.2.1
  got x := x.2.1.2.1
  did x := x.2.2.1
  enc x a d := Sum.inl (((x.1.1, (), (), (), ()), ((x.2.1.1, x.2.1.2.1, (), x.2.1.2.2.2.1, ()), d, ((), ()), (x.2.2.2.2.1.1, ()), ((), x.2.2.2.2.2.2.1.2.1, x.2.2.2.2.2.2.1.2.2.1, ()), ())))
  stop x d := Sum.inr ((((), ()), ((x.2.1.1, x.2.1.2.1, (), (), ()), d, ())))
theorem fuseL2_raw (sp_nodeAt : nodeAt_T) (sp_load : load_T) (sp_store : store_T) (sp_retire : retire_T) (sp_set : set_T) (sp_next : next_T) (sp_edge : edge_T) (sp_prop : prop_T) (sp_none : none_T) (sp_failed : failed_T) (sp_known : known_T) (sp_walkF : walkF_T) (sp_holdF : holdF_T) (v0 : Int) (c : Cfg) (got : List Int) (held : List Int) (did : List Acc) (v12 : Res) (v14 : Int) (v15 : Int) (v17 : Int) (v18 : Int) (v20 : Int) (v21 : Int) : runW 2 Tryz.f50 2 [2, 3, 6, 7, 8, 15] fuseL2vs fuseL2os fuseL2fin [(77, nodeAt_C sp_nodeAt), (80, load_C sp_load), (75, store_C sp_store), (85, retire_C sp_retire), (76, set_C sp_set), (103, next_C sp_next), (82, edge_C sp_edge), (86, prop_C sp_prop), (74, none_C sp_none), (51, failed_C sp_failed), (78, known_C sp_known), (87, walkF_C sp_walkF), (99, holdF_C sp_holdF)] [] [] (((v0, (), (), (), (), (), ()), ((c, got, (), held, ()), did, ((), ()), (v12, ()), ((), v14, v15, ()), ((), v17, v18, ()), ((), v20, v21, ()), ())) : VhL fuseL2vs × OShL fuseL2os) = ((sp_none ((((), v20, v21, ()), ()), (c, got, (), held, ()), did, ())).bind fun val => selim val (fun val => bif !val.1.1 then (sp_load ((((), v20, v21, ()), 0, ()), (val.2.1.1, val.2.1.2.1, (), val.2.1.2.2.2.1, ()), val.2.2.1, ())).bind fun val => selim val (fun val => (sp_next ((((), v20, v21, ()), 2, ()), (val.2.1.1, val.2.1.2.1, (), val.2.1.2.2.2.1, ()), val.2.2.1, ())).bind fun val_1 => selim val_1 (fun val_2 => (sp_load ((((), v14, v15, ()), 3, ()), (val_2.2.1.1, val_2.2.1.2.1, (), val_2.2.1.2.2.2.1, ()), val_2.2.2.1, ())).bind fun val_3 => selim val_3 (fun val_4 => (sp_prop (((), val_4.1.1, ()), (val_4.2.1.1, val_4.2.1.2.1, (), val_4.2.1.2.2.2.1, ()), val_4.2.2.1, ())).bind fun val_5 => selim val_5 (fun val_6 => (sp_walkF (((), ((), val_6.1.1.2.1, val_6.1.1.2.2.1, ()), ((), ()), ()), (val_6.2.1.1, val_6.2.1.2.1, (), val_6.2.1.2.2.2.1, ()), (val.1.1, ()), val_6.2.2.1, ())).bind fun val => selim val (fun val => bif val.1.1 then (sp_retire ((((), v20, v21, ()), ()), (val.2.1.1, val.2.1.2.1, (), val.2.1.2.2.2.1, ()), val.2.2.2.1, ())).bind fun val => selim val (fun val => some (Sum.inl ((v0, (), (), (), (), (), ()), (val.2.1.1, val.2.1.2.1, (), val.2.1.2.2.2.1, ()), val.2.2.1, ((), ()), (v12, ()), ((), v14, v15, ()), ((), v17, v18, ()), ((), val_2.1.1.2.1, val_2.1.1.2.2.1, ()), ()))) fun val => some (Sum.inr (Sum.inr (((), ()), (val.2.1.1, val.2.1.2.1, (), (), ()), val.2.2.1, ()))) else (sp_store ((((), v20, v21, ()), 2, val_6.1.1.2.2.1, ()), (val.2.1.1, val.2.1.2.1, (), val.2.1.2.2.2.1, ()), val.2.2.2.1, ())).bind fun val => selim val (fun val => (sp_store ((((), v14, v15, ()), 3, v21, ()), (val.2.1.1, val.2.1.2.1, (), val.2.1.2.2.2.1, ()), val.2.2.1, ())).bind fun val => selim val (fun val => some (Sum.inl ((v0, (), (), (), (), (), ()), (val.2.1.1, val.2.1.2.1, (), val.2.1.2.2.2.1, ()), val.2.2.1, ((), ()), (v12, ()), ((), v14, v15, ()), ((), v17, v18, ()), ((), val_2.1.1.2.1, val_2.1.1.2.2.1, ()), ()))) fun val => some (Sum.inr (Sum.inr (((), ()), (val.2.1.1, val.2.1.2.1, (), (), ()), val.2.2.1, ())))) fun val => some (Sum.inr (Sum.inr (((), ()), (val.2.1.1, val.2.1.2.1, (), (), ()), val.2.2.1, ())))) fun val => some (Sum.inr (Sum.inr (((), ()), (val.2.1.1, val.2.1.2.1, (), (), ()), val.2.2.2.1, ())))) fun val => some (Sum.inr (Sum.inr (((), ()), (val.2.1.1, val.2.1.2.1, (), (), ()), val.2.2.1, ())))) fun val => some (Sum.inr (Sum.inr (((), ()), (val.2.1.1, val.2.1.2.1, (), (), ()), val.2.2.1, ())))) fun val => some (Sum.inr (Sum.inr (((), ()), (val.2.1.1, val.2.1.2.1, (), (), ()), val.2.2.1, ())))) fun val => some (Sum.inr (Sum.inr (((), ()), (val.2.1.1, val.2.1.2.1, (), (), ()), val.2.2.1, ()))) else some (Sum.inr (Sum.inl ((v0, (), (), (), ()), (val.2.1.1, val.2.1.2.1, (), val.2.1.2.2.2.1, ()), val.2.2.1, ((), ()), (v12, ()), ((), v17, v18, ()), ())))) fun val => some (Sum.inr (Sum.inr (((), ()), (val.2.1.1, val.2.1.2.1, (), (), ()), val.2.2.1, ())))) := by kernel_rfl
theorem fuseL2_ok : LOk Tryz.prog gl 2 (LCon.of Tryz.f50.ntmps [2, 3, 6, 7, 8, 15] fuseL2vs fuseL2os fuseL2fin (Ifc.spec fuseL2I)) (getL (body Tryz.f50) 2) := by
  refine lwk (Lc := []) (nh := []) (G := [(77, nodeAt_C (Ifc.spec nodeAtI)), (80, load_C (Ifc.spec loadI)), (75, store_C (Ifc.spec storeI)), (85, retire_C (Ifc.spec retireI)), (76, set_C (Ifc.spec setI)), (103, next_C (Ifc.spec nextI)), (82, edge_C (Ifc.spec edgeI)), (86, prop_C (Ifc.spec propI)), (74, none_C (Ifc.spec noneI)), (51, failed_C (Ifc.spec failedI)), (78, known_C (Ifc.spec knownI)), (87, walkF_C (Ifc.spec walkFI)), (99, holdF_C (Ifc.spec holdFI))]) (GOk.cons nodeAt_g nodeAt_ok (GOk.cons load_g load_ok (GOk.cons store_g store_ok (GOk.cons retire_g retire_ok (GOk.cons set_g set_ok (GOk.cons next_g next_ok (GOk.cons edge_g edge_ok (GOk.cons prop_g prop_ok (GOk.cons none_g none_ok (GOk.cons failed_g failed_ok (GOk.cons known_g known_ok (GOk.cons walkF_g walkF_ok (GOk.cons holdF_g holdF_ok (GOk.nil)))))))))))))) (noloopN (by kernel_rfl)) (Fin.or_ok (Fin.one_ok _ _ _ _) (Fin.pan_ok _ _ _)) ?_
  rintro ⟨⟨v0, _, _, _, _, _, _⟩, ⟨⟨c, got, _, held, _⟩, did, ⟨_, _⟩, ⟨v12, _⟩, ⟨_, v14, v15, _⟩, ⟨_, v17, v18, _⟩, ⟨_, v20, v21, _⟩, _⟩⟩ y hy
  refine ⟨_, loopT_ok (eX := fun (st : Int) (d : List Acc) => (let v21 := st; ((v0, (), (), (), (), (), ()), ((c, got, (), held, ()), d, ((), ()), (v12, ()), ((), v14, v15, ()), ((), v17, v18, ()), ((), v20, v21, ()), ())) : VhL fuseL2vs × OShL fuseL2os)) (body := fuseL2Step v0 c got held v12 v14 v15 v17 v18 v20) (fun st d => ?_) _ v21 did y hy⟩
  revert st
  intro v21
  refine (fuseL2_raw (Ifc.spec nodeAtI) (Ifc.spec loadI) (Ifc.spec storeI) (Ifc.spec retireI) (Ifc.spec setI) (Ifc.spec nextI) (Ifc.spec edgeI) (Ifc.spec propI) (Ifc.spec noneI) (Ifc.spec failedI) (Ifc.spec knownI) (Ifc.spec walkFI) (Ifc.spec holdFI) v0 c got held d v12 v14 v15 v17 v18 v20 v21).trans ?_
  unfold fuseL2Step
  repeat' (first | refine cond_out (fun _ => ?_) (fun _ => ?_) | (refine (retI (by with_reducible rfl)).trans ?_; try dsimp only [selim, cond_true, cond_false, Bool.not_true, Bool.not_false, one, none1, mI, nodeAtI, loadI, storeI, retireI, setI, nextI, edgeI, propI, noneI, failedI, knownI, walkFI, holdFI]) | (refine bindI rfl rfl (fun _ _ => ?_) (fun _ => rfl); try dsimp only [selim, cond_true, cond_false, Bool.not_true, Bool.not_false, one, none1, mI, nodeAtI, loadI, storeI, retireI, setI, nextI, edgeI, propI, noneI, failedI, knownI, walkFI, holdFI]) | rfl)
abbrev fuseL1vs : List Vh := [vi, .s (.ptr 2 0), .s (.ptr 3 0), .s (.ptr 4 0), .s (.ptr 5 0), .s (.ptr 6 0), .s (.ptr 7 0), .s (.ptr 8 0), .s (.ptr 9 0), .s (.ptr 10 0), .agg [.e .int, .e .int, .e .int, .e .int, .e .int, .e .int, .e .int, .e .int], vi]
abbrev fuseL1os : List OSh := [.box [.e (.st .cfg), .e (.sl .int), .own 1, .sln .int], .arr (.st .acc), .box [.ptr 0 0], .box [.e .int], .box [.e (.st .res)], .box [.ptr 0 0, .e .int, .e .int], .box [.ptr 0 0, .e .int, .e .int], .box [.e (.st .sid)], .box [.ptr 0 0, .e .int, .e .int], .box [.ptr 0 0, .e .int, .e .int], .box [.ptr 0 0, .e .int, .e .int]]
noncomputable abbrev fuseL1fin : Fin := ((Fin.one 2 Tryz.f50.ntmps (.exit 2) [2, 3, 4, 6, 7, 8, 11, 12, 13, 43, 44] [vi, .s (.ptr 2 0), .s (.ptr 3 0), .s (.ptr 4 0), .s (.ptr 5 0), .s (.ptr 6 0), .s (.ptr 7 0), .s (.ptr 8 0), .s (.ptr 9 0), .agg [.e .int, .e .int, .e .int, .e .int, .e .int, .e .int, .e .int, .e .int], vi] [.box [.e (.st .cfg), .e (.sl .int), .own 1, .sln .int], .arr (.st .acc), .box [.ptr 0 0], .box [.e .int], .box [.e (.st .res)], .box [.ptr 0 0, .e .int, .e .int], .box [.ptr 0 0, .e .int, .e .int], .box [.e (.st .sid)], .box [.ptr 0 0, .e .int, .e .int], .box [.ptr 0 0, .e .int, .e .int]]).or (Fin.pan 2 59 (.agg []) machP))
def fuseL1Step (v0 : Int) (v10 : Int) (v11 : Int) (v12 : Int) (v13 : Int) (v14 : Int) (v15 : Int) (v16 : Int) (v17 : Int) (v18 : Int) (c : Cfg) (got : List Int) (held : List Int) (v25 : Int) (v26 : Res) (v28 : Int) (v29 : Int) (v31 : Int) (v32 : Int) (v33 : Sid) (v41 : Int) (st : Int × Int × Int × Int × Int) : T ((Int × Int × Int × Int × Int) ⊕ (Int × Int × Int × Int)) :=
 let v35 := st.1
 let v36 := st.2.1
 let v38 := st.2.2.1
 let v39 := st.2.2.2.1
 let v42 := st.2.2.2.2
 bif !v42 == 0 then
 bif v36 == 0 then
 (storeTr v41 v42 v33.own v25 c got held).bind fun _ =>
 (nextTr v41 v42 v33.link c got held).bind fun x3 =>
 .ret (Sum.inl (v41, v42, v41, v42, x3))
 else
 (storeTr v41 v42 v33.own v25 c got held).bind fun _ =>
 (nextTr v41 v42 v33.link c got held).bind fun x3 =>
 .ret (Sum.inl (v35, v36, v41, v42, x3))
 else
 .ret (Sum.inr (v35, v36, v38, v39))
@[reducible] def fuseL1I : Ifc (VhL fuseL1vs × OShL fuseL1os) fuseL1fin.Y where
  α := Int × Int × Int × Int
  tr x := T.loop (fuseL1Step x.1.1 x.1.2.2.2.2.2.2.2.2.2.2.1.1 x.1.2.2.2.2.2.2.2.2.2.2.1.2.1 x.1.2.2.2.2.2.2.2.2.2.2.1.2.2.1 x.1.2.2.2.2.2.2.2.2.2.2.1.2.2.2.1 x.1.2.2.2.2.2.2.2.2.2.2.1.2.2.2.2.1 x.1.2.2.2.2.2.2.2.2.2.2.1.2.2.2.2.2.1 x.1.2.2.2.2.2.2.2.2.2.2.1.2.2.2.2.2.2.1 x.1.2.2.2.2.2.2.2.2.2.2.1.2.2.2.2.2.2.2.1 x.1.2.2.2.2.2.2.2.2.2.2.2.1 x.2.1.1 x.2.1.2.1 x.2.1.2.2.2.1 x.2.2.2.2.1.1 x.2.2.2.2.2.1.1 x.2.2.2.2.2.2.1.2.1 x.2.2.2.2.2.2.1.2.2.1 x.2.2.2.2.2.2.2.1.2.1 x.2.2.2.2.2.2.2.1.2.2.1 x.2.2.2.2.2.2.2.2.1.1 x.2.2.2.2.2.2.2.2.2.2.2.1.2.1) (x.2.1.2.1.length + 10) (x.2.2.2.2.2.2.2.2.2.1.2.1, x.2.2.2.2.2.2.2.2.2.1.2.2.1, x.2.2.2.2.2.2.2.2.2.2.1.2.1, x.2.2.2.2.2.2.2.2.2.2.1.2.2.1, x.2.2.2.2.2.2.2.2.2.2.2.1.2.2.1)
  got x := x.2.1.2.1
  did x := x.2.2.1
  enc x a d := Sum.inl (((x.1.1, (), (), (), (), (), (), (), (), (x.1.2.2.2.2.2.2.2.2.2.2.1.1, x.1.2.2.2.2.2.2.2.2.2.2.1.2.1, x.1.2.2.2.2.2.2.2.2.2.2.1.2.2.1, x.1.2.2.2.2.2.2.2.2.2.2.1.2.2.2.1, x.1.2.2.2.2.2.2.2.2.2.2.1.2.2.2.2.1, x.1.2.2.2.2.2.2.2.2.2.2.1.2.2.2.2.2.1, x.1.2.2.2.2.2.2.2.2.2.2.1.2.2.2.2.2.2.1, x.1.2.2.2.2.2.2.2.2.2.2.1.2.2.2.2.2.2.2.1, ()), x.1.2.2.2.2.2.2.2.2.2.2.2.1, ()), ((x.2.1.1, x.2.1.2.1, (), x.2.1.2.2.2.1, ()), d, ((), ()), (x.2.2.2.2.1.1, ()), (x.2.2.2.2.2.1.1, ()), ((), x.2.2.2.2.2.2.1.2.1, x.2.2.2.2.2.2.1.2.2.1, ()), ((), x.2.2.2.2.2.2.2.1.2.1, x.2.2.2.2.2.2.2.1.2.2.1, ()), (x.2.2.2.2.2.2.2.2.1.1, ()), ((), a.1, a.2.1, ()), ((), a.2.2.1, a.2.2.2, ()), ())))
  stop x d := Sum.inr ((((), ()), ((x.2.1.1, x.2.1.2.1, (), (), ()), d, ())))
theorem fuseL1_raw (sp_nodeAt : nodeAt_T) (sp_load : load_T) (sp_store : store_T) (sp_retire : retire_T) (sp_set : set_T) (sp_next : next_T) (sp_edge : edge_T) (sp_prop : prop_T) (sp_none : none_T) (sp_failed : failed_T) (sp_known : known_T) (sp_walkF : walkF_T) (sp_holdF : holdF_T) (v0 : Int) (v10 : Int) (v11 : Int) (v12 : Int) (v13 : Int) (v14 : Int) (v15 : Int) (v16 : Int) (v17 : Int) (v18 : Int) (c : Cfg) (got : List Int) (held : List Int) (did : List Acc) (v25 : Int) (v26 : Res) (v28 : Int) (v29 : Int) (v31 : Int) (v32 : Int) (v33 : Sid) (v35 : Int) (v36 : Int) (v38 : Int) (v39 : Int) (v41 : Int) (v42 : Int) : runW 2 Tryz.f50 1 [2, 3, 4, 6, 7, 8, 11, 12, 13, 14, 43, 44] fuseL1vs fuseL1os fuseL1fin [(77, nodeAt_C sp_nodeAt), (80, load_C sp_load), (75, store_C sp_store), (85, retire_C sp_retire), (76, set_C sp_set), (103, next_C sp_next), (82, edge_C sp_edge), (86, prop_C sp_prop), (74, none_C sp_none), (51, failed_C sp_failed), (78, known_C sp_known), (87, walkF_C sp_walkF), (99, holdF_C sp_holdF)] [] [] (((v0, (), (), (), (), (), (), (), (), (), (v10, v11, v12, v13, v14, v15, v16, v17, ()), v18, ()), ((c, got, (), held, ()), did, ((), ()), (v25, ()), (v26, ()), ((), v28, v29, ()), ((), v31, v32, ()), (v33, ()), ((), v35, v36, ()), ((), v38, v39, ()), ((), v41, v42, ()), ())) : VhL fuseL1vs × OShL fuseL1os) = ((sp_none ((((), v41, v42, ()), ()), (c, got, (), held, ()), did, ())).bind fun val => selim val (fun val => bif !val.1.1 then (sp_none ((((), v35, v36, ()), ()), (val.2.1.1, val.2.1.2.1, (), val.2.1.2.2.2.1, ()), val.2.2.1, ())).bind fun val => selim val (fun val => bif val.1.1 then (sp_store ((((), v41, v42, ()), v33.own, v25, ()), (val.2.1.1, val.2.1.2.1, (), val.2.1.2.2.2.1, ()), val.2.2.1, ())).bind fun val => selim val (fun val => (sp_next ((((), v41, v42, ()), v33.link, ()), (val.2.1.1, val.2.1.2.1, (), val.2.1.2.2.2.1, ()), val.2.2.1, ())).bind fun val => selim val (fun val => some (Sum.inl ((v0, (), (), (), (), (), (), (), (), (), (v10, v11, v12, v13, v14, v15, v16, v17, ()), v18, ()), (val.2.1.1, val.2.1.2.1, (), val.2.1.2.2.2.1, ()), val.2.2.1, ((), ()), (v25, ()), (v26, ()), ((), v28, v29, ()), ((), v31, v32, ()), (v33, ()), ((), v41, v42, ()), ((), v41, v42, ()), ((), val.1.1.2.1, val.1.1.2.2.1, ()), ()))) fun val => some (Sum.inr (Sum.inr (((), ()), (val.2.1.1, val.2.1.2.1, (), (), ()), val.2.2.1, ())))) fun val => some (Sum.inr (Sum.inr (((), ()), (val.2.1.1, val.2.1.2.1, (), (), ()), val.2.2.1, ()))) else (sp_store ((((), v41, v42, ()), v33.own, v25, ()), (val.2.1.1, val.2.1.2.1, (), val.2.1.2.2.2.1, ()), val.2.2.1, ())).bind fun val => selim val (fun val => (sp_next ((((), v41, v42, ()), v33.link, ()), (val.2.1.1, val.2.1.2.1, (), val.2.1.2.2.2.1, ()), val.2.2.1, ())).bind fun val => selim val (fun val => some (Sum.inl ((v0, (), (), (), (), (), (), (), (), (), (v10, v11, v12, v13, v14, v15, v16, v17, ()), v18, ()), (val.2.1.1, val.2.1.2.1, (), val.2.1.2.2.2.1, ()), val.2.2.1, ((), ()), (v25, ()), (v26, ()), ((), v28, v29, ()), ((), v31, v32, ()), (v33, ()), ((), v35, v36, ()), ((), v41, v42, ()), ((), val.1.1.2.1, val.1.1.2.2.1, ()), ()))) fun val => some (Sum.inr (Sum.inr (((), ()), (val.2.1.1, val.2.1.2.1, (), (), ()), val.2.2.1, ())))) fun val => some (Sum.inr (Sum.inr (((), ()), (val.2.1.1, val.2.1.2.1, (), (), ()), val.2.2.1, ())))) fun val => some (Sum.inr (Sum.inr (((), ()), (val.2.1.1, val.2.1.2.1, (), (), ()), val.2.2.1, ()))) else some (Sum.inr (Sum.inl ((v0, (), (), (), (), (), (), (), (), (v10, v11, v12, v13, v14, v15, v16, v17, ()), v18, ()), (val.2.1.1, val.2.1.2.1, (), val.2.1.2.2.2.1, ()), val.2.2.1, ((), ()), (v25, ()), (v26, ()), ((), v28, v29, ()), ((), v31, v32, ()), (v33, ()), ((), v35, v36, ()), ((), v38, v39, ()), ())))) fun val => some (Sum.inr (Sum.inr (((), ()), (val.2.1.1, val.2.1.2.1, (), (), ()), val.2.2.1, ())))) := by kernel_rfl
theorem fuseL1_ok : LOk Tryz.prog gl 2 (LCon.of Tryz.f50.ntmps [2, 3, 4, 6, 7, 8, 11, 12, 13, 14, 43, 44] fuseL1vs fuseL1os fuseL1fin (Ifc.spec fuseL1I)) (getL (body Tryz.f50) 1) := by
  refine lwk (Lc := []) (nh := []) (G := [(77, nodeAt_C (Ifc.spec nodeAtI)), (80, load_C (Ifc.spec loadI)), (75, store_C (Ifc.spec storeI)), (85, retire_C (Ifc.spec retireI)), (76, set_C (Ifc.spec setI)), (103, next_C (Ifc.spec nextI)), (82, edge_C (Ifc.spec edgeI)), (86, prop_C (Ifc.spec propI)), (74, none_C (Ifc.spec noneI)), (51, failed_C (Ifc.spec failedI)), (78, known_C (Ifc.spec knownI)), (87, walkF_C (Ifc.spec walkFI)), (99, holdF_C (Ifc.spec holdFI))]) (GOk.cons nodeAt_g nodeAt_ok (GOk.cons load_g load_ok (GOk.cons store_g store_ok (GOk.cons retire_g retire_ok (GOk.cons set_g set_ok (GOk.cons next_g next_ok (GOk.cons edge_g edge_ok (GOk.cons prop_g prop_ok (GOk.cons none_g none_ok (GOk.cons failed_g failed_ok (GOk.cons known_g known_ok (GOk.cons walkF_g walkF_ok (GOk.cons holdF_g holdF_ok (GOk.nil)))))))))))))) (noloopN (by kernel_rfl)) (Fin.or_ok (Fin.one_ok _ _ _ _) (Fin.pan_ok _ _ _)) ?_
  rintro ⟨⟨v0, _, _, _, _, _, _, _, _, _, ⟨v10, v11, v12, v13, v14, v15, v16, v17, _⟩, v18, _⟩, ⟨⟨c, got, _, held, _⟩, did, ⟨_, _⟩, ⟨v25, _⟩, ⟨v26, _⟩, ⟨_, v28, v29, _⟩, ⟨_, v31, v32, _⟩, ⟨v33, _⟩, ⟨_, v35, v36, _⟩, ⟨_, v38, v39, _⟩, ⟨_, v41, v42, _⟩, _⟩⟩ y hy
  refine ⟨_, loopT_ok (eX := fun (st : Int × Int × Int × Int × Int) (d : List Acc) => (let v35 := st.1; let v36 := st.2.1; let v38 := st.2.2.1; let v39 := st.2.2.2.1; let v42 := st.2.2.2.2; ((v0, (), (), (), (), (), (), (), (), (), (v10, v11, v12, v13, v14, v15, v16, v17, ()), v18, ()), ((c, got, (), held, ()), d, ((), ()), (v25, ()), (v26, ()), ((), v28, v29, ()), ((), v31, v32, ()), (v33, ()), ((), v35, v36, ()), ((), v38, v39, ()), ((), v41, v42, ()), ())) : VhL fuseL1vs × OShL fuseL1os)) (body := fuseL1Step v0 v10 v11 v12 v13 v14 v15 v16 v17 v18 c got held v25 v26 v28 v29 v31 v32 v33 v41) (fun st d => ?_) _ (v35, v36, v38, v39, v42) did y hy⟩
  obtain ⟨v35, v36, v38, v39, v42⟩ := st
  refine (fuseL1_raw (Ifc.spec nodeAtI) (Ifc.spec loadI) (Ifc.spec storeI) (Ifc.spec retireI) (Ifc.spec setI) (Ifc.spec nextI) (Ifc.spec edgeI) (Ifc.spec propI) (Ifc.spec noneI) (Ifc.spec failedI) (Ifc.spec knownI) (Ifc.spec walkFI) (Ifc.spec holdFI) v0 v10 v11 v12 v13 v14 v15 v16 v17 v18 c got held d v25 v26 v28 v29 v31 v32 v33 v35 v36 v38 v39 v41 v42).trans ?_
  unfold fuseL1Step
  repeat' (first | refine cond_out (fun _ => ?_) (fun _ => ?_) | (refine (retI (by with_reducible rfl)).trans ?_; try dsimp only [selim, cond_true, cond_false, Bool.not_true, Bool.not_false, one, none1, mI, nodeAtI, loadI, storeI, retireI, setI, nextI, edgeI, propI, noneI, failedI, knownI, walkFI, holdFI]) | (refine bindI rfl rfl (fun _ _ => ?_) (fun _ => rfl); try dsimp only [selim, cond_true, cond_false, Bool.not_true, Bool.not_false, one, none1, mI, nodeAtI, loadI, storeI, retireI, setI, nextI, edgeI, propI, noneI, failedI, knownI, walkFI, holdFI]) | rfl)
abbrev fuseL0vs : List Vh := [vi, .s (.ptr 2 0), .s (.ptr 3 0), .s (.ptr 4 0), .s (.ptr 5 0), .s (.ptr 6 0), .agg [.e .int, .e .int, .e .int, .e .int, .e .int, .e .int, .e .int, .e .int], vi]
abbrev fuseL0os : List OSh := [.box [.e (.st .cfg), .e (.sl .int), .own 1, .sln .int], .arr (.st .acc), .box [.ptr 0 0], .box [.e .int], .box [.e (.st .res)], .box [.ptr 0 0, .e .int, .e .int], .box [.ptr 0 0, .e .int, .e .int]]
noncomputable abbrev fuseL0fin : Fin := ((Fin.one 2 Tryz.f50.ntmps (.exit 0) [2, 3, 6, 7, 8] [vi, .s (.ptr 2 0), .s (.ptr 3 0), .s (.ptr 4 0), .s (.ptr 5 0)] [.box [.e (.st .cfg), .e (.sl .int), .own 1, .sln .int], .arr (.st .acc), .box [.ptr 0 0], .box [.e (.st .res)], .box [.ptr 0 0, .e .int, .e .int], .box [.ptr 0 0, .e .int, .e .int]]).or (Fin.pan 2 59 (.agg []) machP))
def fuseL0Step (v0 : Int) (v6 : Int) (v7 : Int) (v8 : Int) (v9 : Int) (v10 : Int) (v11 : Int) (v12 : Int) (v13 : Int) (c : Cfg) (got : List Int) (held : List Int) (v21 : Int) (v22 : Res) (v24 : Int) (v25 : Int) (v27 : Int) (v28 : Int) (st : Int) : T ((Int) ⊕ (Unit)) :=
 let v14 := st
 bif decide (v14 < 2) then
 bif inR v14 2 then
 (loadTr v27 v28 (rdE EK.int [v6, v10] v14) c got held).bind fun x2 =>
 (T.loop (fuseL1Step v0 v6 v7 v8 v9 v10 v11 v12 v13 v14 c got held v21 v22 v24 v25 v27 v28 (Sid.mk (rdE EK.int [v6, v10] v14) (rdE EK.int [v7, v11] v14) (rdE EK.int [v8, v12] v14) (rdE EK.int [v9, v13] v14)) 2) (got.length + 10) (2, 0, 2, 0, x2)).bind fun x4 =>
 bif !x4.2.1 == 0 then
 (loadTr v24 v25 (rdE EK.int [v6, v10] v14) c got held).bind fun x6 =>
 (storeTr x4.2.2.1 x4.2.2.2 (rdE EK.int [v7, v11] v14) x6 c got held).bind fun _ =>
 (storeTr v24 v25 (rdE EK.int [v6, v10] v14) x4.2.1 c got held).bind fun _ =>
 .ret (Sum.inl (w64 (v14 + 1)))
 else
 .ret (Sum.inl (w64 (v14 + 1)))
 else
 .bot
 else
 .ret (Sum.inr ())
@[reducible] def fuseL0I : Ifc (VhL fuseL0vs × OShL fuseL0os) fuseL0fin.Y where
  α := Unit
  tr x := T.loop (fuseL0Step x.1.1 x.1.2.2.2.2.2.2.1.1 x.1.2.2.2.2.2.2.1.2.1 x.1.2.2.2.2.2.2.1.2.2.1 x.1.2.2.2.2.2.2.1.2.2.2.1 x.1.2.2.2.2.2.2.1.2.2.2.2.1 x.1.2.2.2.2.2.2.1.2.2.2.2.2.1 x.1.2.2.2.2.2.2.1.2.2.2.2.2.2.1 x.1.2.2.2.2.2.2.1.2.2.2.2.2.2.2.1 x.2.1.1 x.2.1.2.1 x.2.1.2.2.2.1 x.2.2.2.2.1.1 x.2.2.2.2.2.1.1 x.2.2.2.2.2.2.1.2.1 x.2.2.2.2.2.2.1.2.2.1 x.2.2.2.2.2.2.2.1.2.1 x.2.2.2.2.2.2.2.1.2.2.1) (x.2.1.2.1.length + 10) x.1.2.2.2.2.2.2.2.1
  got x := x.2.1.2.1
  did x := x.2.2.1
  enc x a d := Sum.inl (((x.1.1, (), (), (), (), ()), ((x.2.1.1, x.2.1.2.1, (), x.2.1.2.2.2.1, ()), d, ((), ()), (x.2.2.2.2.2.1.1, ()), ((), x.2.2.2.2.2.2.1.2.1, x.2.2.2.2.2.2.1.2.2.1, ()), ((), x.2.2.2.2.2.2.2.1.2.1, x.2.2.2.2.2.2.2.1.2.2.1, ()), ())))
  stop x d := Sum.inr ((((), ()), ((x.2.1.1, x.2.1.2.1, (), (), ()), d, ())))
theorem fuseL0_raw (sp_nodeAt : nodeAt_T) (sp_load : load_T) (sp_store : store_T) (sp_retire : retire_T) (sp_set : set_T) (sp_next : next_T) (sp_edge : edge_T) (sp_prop : prop_T) (sp_none : none_T) (sp_failed : failed_T) (sp_known : known_T) (sp_walkF : walkF_T) (sp_holdF : holdF_T) (sp_fuseL1 : VhL fuseL1vs × OShL fuseL1os → Option fuseL1fin.Y) (v0 : Int) (v6 : Int) (v7 : Int) (v8 : Int) (v9 : Int) (v10 : Int) (v11 : Int) (v12 : Int) (v13 : Int) (v14 : Int) (c : Cfg) (got : List Int) (held : List Int) (did : List Acc) (v21 : Int) (v22 : Res) (v24 : Int) (v25 : Int) (v27 : Int) (v28 : Int) : runW 2 Tryz.f50 0 [2, 3, 4, 6, 7, 8, 43, 44] fuseL0vs fuseL0os fuseL0fin [(77, nodeAt_C sp_nodeAt), (80, load_C sp_load), (75, store_C sp_store), (85, retire_C sp_retire), (76, set_C sp_set), (103, next_C sp_next), (82, edge_C sp_edge), (86, prop_C sp_prop), (74, none_C sp_none), (51, failed_C sp_failed), (78, known_C sp_known), (87, walkF_C sp_walkF), (99, holdF_C sp_holdF)] [(14, LCon.of Tryz.f50.ntmps [2, 3, 4, 6, 7, 8, 11, 12, 13, 14, 43, 44] fuseL1vs fuseL1os fuseL1fin sp_fuseL1)] [] (((v0, (), (), (), (), (), (v6, v7, v8, v9, v10, v11, v12, v13, ()), v14, ()), ((c, got, (), held, ()), did, ((), ()), (v21, ()), (v22, ()), ((), v24, v25, ()), ((), v27, v28, ()), ())) : VhL fuseL0vs × OShL fuseL0os) = (bif decide (v14 < 2) then bif inR v14 2 then (sp_edge (((), 0, ()), (c, got, (), held, ()), did, ())).bind fun val => selim val (fun val => (sp_edge (((), 0, ()), (val.2.1.1, val.2.1.2.1, (), val.2.1.2.2.2.1, ()), val.2.2.1, ())).bind fun val_1 => selim val_1 (fun val_2 => (sp_load ((((), v27, v28, ()), rdE EK.int [v6, v10] v14, ()), (val_2.2.1.1, val_2.2.1.2.1, (), val_2.2.1.2.2.2.1, ()), val_2.2.2.1, ())).bind fun val_3 => selim val_3 (fun val_4 => (sp_edge (((), val_4.1.1, ()), (val_4.2.1.1, val_4.2.1.2.1, (), val_4.2.1.2.2.2.1, ()), val_4.2.2.1, ())).bind fun val_5 => selim val_5 (fun val_6 => (sp_fuseL1 ((v0, (), (), (), (), (), (), (), (), (), (v6, v7, v8, v9, v10, v11, v12, v13, ()), v14, ()), (val_6.2.1.1, val_6.2.1.2.1, (), val_6.2.1.2.2.2.1, ()), val_6.2.2.1, ((), ()), (v21, ()), (v22, ()), ((), v24, v25, ()), ((), v27, v28, ()), (Sid.mk (rdE EK.int [v6, v10] v14) (rdE EK.int [v7, v11] v14) (rdE EK.int [v8, v12] v14) (rdE EK.int [v9, v13] v14), ()), ((), val.1.1.2.1, val.1.1.2.2.1, ()), ((), val_2.1.1.2.1, val_2.1.1.2.2.1, ()), ((), val_6.1.1.2.1, val_6.1.1.2.2.1, ()), ())).bind fun val => selim val (fun val => (sp_none ((((), val.2.2.2.2.2.2.2.2.2.1.2.1, val.2.2.2.2.2.2.2.2.2.1.2.2.1, ()), ()), (val.2.1.1, val.2.1.2.1, (), val.2.1.2.2.2.1, ()), val.2.2.1, ())).bind fun val_7 => selim val_7 (fun val_8 => bif !val_8.1.1 then (sp_load ((((), val.2.2.2.2.2.2.1.2.1, val.2.2.2.2.2.2.1.2.2.1, ()), val.2.2.2.2.2.2.2.2.1.1.head, ()), (val_8.2.1.1, val_8.2.1.2.1, (), val_8.2.1.2.2.2.1, ()), val_8.2.2.1, ())).bind fun val_9 => selim val_9 (fun val_10 => (sp_store ((((), val.2.2.2.2.2.2.2.2.2.2.1.2.1, val.2.2.2.2.2.2.2.2.2.2.1.2.2.1, ()), val.2.2.2.2.2.2.2.2.1.1.link, val_10.1.1, ()), (val_10.2.1.1, val_10.2.1.2.1, (), val_10.2.1.2.2.2.1, ()), val_10.2.2.1, ())).bind fun val_11 => selim val_11 (fun val_12 => (sp_store ((((), val.2.2.2.2.2.2.1.2.1, val.2.2.2.2.2.2.1.2.2.1, ()), val.2.2.2.2.2.2.2.2.1.1.head, val.2.2.2.2.2.2.2.2.2.1.2.2.1, ()), (val_12.2.1.1, val_12.2.1.2.1, (), val_12.2.1.2.2.2.1, ()), val_12.2.2.1, ())).bind fun val_13 => selim val_13 (fun val_14 => some (Sum.inl ((val.1.1, (), (), (), (), (), (val.1.2.2.2.2.2.2.2.2.2.1.1, val.1.2.2.2.2.2.2.2.2.2.1.2.1, val.1.2.2.2.2.2.2.2.2.2.1.2.2.1, val.1.2.2.2.2.2.2.2.2.2.1.2.2.2.1, val.1.2.2.2.2.2.2.2.2.2.1.2.2.2.2.1, val.1.2.2.2.2.2.2.2.2.2.1.2.2.2.2.2.1, val.1.2.2.2.2.2.2.2.2.2.1.2.2.2.2.2.2.1, val.1.2.2.2.2.2.2.2.2.2.1.2.2.2.2.2.2.2.1, ()), w64 (val.1.2.2.2.2.2.2.2.2.2.2.1 + 1), ()), (val_14.2.1.1, val_14.2.1.2.1, (), val_14.2.1.2.2.2.1, ()), val_14.2.2.1, ((), ()), (val.2.2.2.2.1.1, ()), (val.2.2.2.2.2.1.1, ()), ((), val.2.2.2.2.2.2.1.2.1, val.2.2.2.2.2.2.1.2.2.1, ()), ((), val.2.2.2.2.2.2.2.1.2.1, val.2.2.2.2.2.2.2.1.2.2.1, ()), ()))) fun val => some (Sum.inr (Sum.inr (((), ()), (val.2.1.1, val.2.1.2.1, (), (), ()), val.2.2.1, ())))) fun val => some (Sum.inr (Sum.inr (((), ()), (val.2.1.1, val.2.1.2.1, (), (), ()), val.2.2.1, ())))) fun val => some (Sum.inr (Sum.inr (((), ()), (val.2.1.1, val.2.1.2.1, (), (), ()), val.2.2.1, ()))) else some (Sum.inl ((val.1.1, (), (), (), (), (), (val.1.2.2.2.2.2.2.2.2.2.1.1, val.1.2.2.2.2.2.2.2.2.2.1.2.1, val.1.2.2.2.2.2.2.2.2.2.1.2.2.1, val.1.2.2.2.2.2.2.2.2.2.1.2.2.2.1, val.1.2.2.2.2.2.2.2.2.2.1.2.2.2.2.1, val.1.2.2.2.2.2.2.2.2.2.1.2.2.2.2.2.1, val.1.2.2.2.2.2.2.2.2.2.1.2.2.2.2.2.2.1, val.1.2.2.2.2.2.2.2.2.2.1.2.2.2.2.2.2.2.1, ()), w64 (val.1.2.2.2.2.2.2.2.2.2.2.1 + 1), ()), (val_8.2.1.1, val_8.2.1.2.1, (), val_8.2.1.2.2.2.1, ()), val_8.2.2.1, ((), ()), (val.2.2.2.2.1.1, ()), (val.2.2.2.2.2.1.1, ()), ((), val.2.2.2.2.2.2.1.2.1, val.2.2.2.2.2.2.1.2.2.1, ()), ((), val.2.2.2.2.2.2.2.1.2.1, val.2.2.2.2.2.2.2.1.2.2.1, ()), ()))) fun val => some (Sum.inr (Sum.inr (((), ()), (val.2.1.1, val.2.1.2.1, (), (), ()), val.2.2.1, ())))) fun val => some (Sum.inr (Sum.inr (((), ()), (val.2.1.1, val.2.1.2.1, (), (), ()), val.2.2.1, ())))) fun val => some (Sum.inr (Sum.inr (((), ()), (val.2.1.1, val.2.1.2.1, (), (), ()), val.2.2.1, ())))) fun val => some (Sum.inr (Sum.inr (((), ()), (val.2.1.1, val.2.1.2.1, (), (), ()), val.2.2.1, ())))) fun val => some (Sum.inr (Sum.inr (((), ()), (val.2.1.1, val.2.1.2.1, (), (), ()), val.2.2.1, ())))) fun val => some (Sum.inr (Sum.inr (((), ()), (val.2.1.1, val.2.1.2.1, (), (), ()), val.2.2.1, ()))) else none
else some (Sum.inr (Sum.inl ((v0, (), (), (), (), ()), (c, got, (), held, ()), did, ((), ()), (v22, ()), ((), v24, v25, ()), ((), v27, v28, ()), ())))) := by kernel_rfl
theorem fuseL0_ok : LOk Tryz.prog gl 2 (LCon.of Tryz.f50.ntmps [2, 3, 4, 6, 7, 8, 43, 44] fuseL0vs fuseL0os fuseL0fin (Ifc.spec fuseL0I)) (getL (body Tryz.f50) 0) := by
  refine lwk (Lc := [(14, LCon.of Tryz.f50.ntmps [2, 3, 4, 6, 7, 8, 11, 12, 13, 14, 43, 44] fuseL1vs fuseL1os fuseL1fin (Ifc.spec fuseL1I))]) (nh := []) (G := [(77, nodeAt_C (Ifc.spec nodeAtI)), (80, load_C (Ifc.spec loadI)), (75, store_C (Ifc.spec storeI)), (85, retire_C (Ifc.spec retireI)), (76, set_C (Ifc.spec setI)), (103, next_C (Ifc.spec nextI)), (82, edge_C (Ifc.spec edgeI)), (86, prop_C (Ifc.spec propI)), (74, none_C (Ifc.spec noneI)), (51, failed_C (Ifc.spec failedI)), (78, known_C (Ifc.spec knownI)), (87, walkF_C (Ifc.spec walkFI)), (99, holdF_C (Ifc.spec holdFI))]) (GOk.cons nodeAt_g nodeAt_ok (GOk.cons load_g load_ok (GOk.cons store_g store_ok (GOk.cons retire_g retire_ok (GOk.cons set_g set_ok (GOk.cons next_g next_ok (GOk.cons edge_g edge_ok (GOk.cons prop_g prop_ok (GOk.cons none_g none_ok (GOk.cons failed_g failed_ok (GOk.cons known_g known_ok (GOk.cons walkF_g walkF_ok (GOk.cons holdF_g holdF_ok (GOk.nil)))))))))))))) (lcok (bs := [getL (body Tryz.f50) 1]) (by kernel_rfl) ⟨lone_ok (q := (14, LCon.of Tryz.f50.ntmps [2, 3, 4, 6, 7, 8, 11, 12, 13, 14, 43, 44] fuseL1vs fuseL1os fuseL1fin (Ifc.spec fuseL1I))) (by kernel_rfl) fuseL1_ok, trivial⟩) (Fin.or_ok (Fin.one_ok _ _ _ _) (Fin.pan_ok _ _ _)) ?_
  rintro ⟨⟨v0, _, _, _, _, _, ⟨v6, v7, v8, v9, v10, v11, v12, v13, _⟩, v14, _⟩, ⟨⟨c, got, _, held, _⟩, did, ⟨_, _⟩, ⟨v21, _⟩, ⟨v22, _⟩, ⟨_, v24, v25, _⟩, ⟨_, v27, v28, _⟩, _⟩⟩ y hy
  refine ⟨_, loopT_ok (eX := fun (st : Int) (d : List Acc) => (let v14 := st; ((v0, (), (), (), (), (), (v6, v7, v8, v9, v10, v11, v12, v13, ()), v14, ()), ((c, got, (), held, ()), d, ((), ()), (v21, ()), (v22, ()), ((), v24, v25, ()), ((), v27, v28, ()), ())) : VhL fuseL0vs × OShL fuseL0os)) (body := fuseL0Step v0 v6 v7 v8 v9 v10 v11 v12 v13 c got held v21 v22 v24 v25 v27 v28) (fun st d => ?_) _ v14 did y hy⟩
  revert st
  intro v14
  refine (fuseL0_raw (Ifc.spec nodeAtI) (Ifc.spec loadI) (Ifc.spec storeI) (Ifc.spec retireI) (Ifc.spec setI) (Ifc.spec nextI) (Ifc.spec edgeI) (Ifc.spec propI) (Ifc.spec noneI) (Ifc.spec failedI) (Ifc.spec knownI) (Ifc.spec walkFI) (Ifc.spec holdFI) (Ifc.spec fuseL1I) v0 v6 v7 v8 v9 v10 v11 v12 v13 v14 c got held d v21 v22 v24 v25 v27 v28).trans ?_
  unfold fuseL0Step
  repeat' (first | refine cond_out (fun _ => ?_) (fun _ => ?_) | (refine (retI (by with_reducible rfl)).trans ?_; try dsimp only [selim, cond_true, cond_false, Bool.not_true, Bool.not_false, one, none1, mI, nodeAtI, loadI, storeI, retireI, setI, nextI, edgeI, propI, noneI, failedI, knownI, walkFI, holdFI, fuseL1I]) | (refine bindI rfl rfl (fun _ _ => ?_) (fun _ => rfl); try dsimp only [selim, cond_true, cond_false, Bool.not_true, Bool.not_false, one, none1, mI, nodeAtI, loadI, storeI, retireI, setI, nextI, edgeI, propI, noneI, failedI, knownI, walkFI, holdFI, fuseL1I]) | rfl)
def fuseTr (a : Int) (b : Int) (c : Cfg) (got : List Int) (held : List Int) : T (Res × List Int) :=
 bif a == b then
 .ret (Res.mk 5 0 [] [] [], held)
 else
 (knownTr [a, b] c got held).bind fun x0 =>
 bif !x0 then
 .ret (Res.mk 2 0 [] [] [], held)
 else
 (holdFTr b [a, b] c got held a 0 0).bind fun b1 => selim b1
 (fun x1 => bif !x1.2.1 then
 .ret (Res.mk 2 0 [] [] [], x1.2.2.1)
 else
 (T.loop (fuseL0Step b 1 3 1 2 2 4 2 1 c got x1.2.2.1 a (Res.mk 0 0 [] [] []) 1 x1.2.2.2 1 x1.1) (got.length + 10) 0).bind fun _ =>
 (loadTr 1 x1.1 3 c got x1.2.2.1).bind fun x3 =>
 (T.loop (fuseL2Step b c got x1.2.2.1 (Res.mk 0 0 [] [] []) 1 x1.2.2.2 1 x1.1 3) (got.length + 10) x3).bind fun _ =>
 (setTr (w64 (b + 1)) 0 c got x1.2.2.1).bind fun _ =>
 (retireTr 1 x1.1 c got x1.2.2.1).bind fun _ =>
 .ret (Res.mk 0 0 [] [] [], x1.2.2.1))
 (fun y1 => .ret (Res.mk 2 0 [] [] [], y1.2.1))
@[reducible] def fuseI : Ifc (VhL [pm, vi, vi] × OShL mach) ((VhL [.s (.e (.st .res))] × OShL mach) ⊕ (VhL [.agg []] × OShL machP)) where
  α := Res × List Int
  tr x := fuseTr x.1.2.1 x.1.2.2.1 x.2.1.1 x.2.1.2.1 x.2.1.2.2.2.1
  got x := x.2.1.2.1
  did x := x.2.2.1
  enc x a d := Sum.inl (((a.1, ()), ((x.2.1.1, x.2.1.2.1, (), a.2, ()), d, ())))
  stop x d := Sum.inr ((((), ()), ((x.2.1.1, x.2.1.2.1, (), (), ()), d, ())))
abbrev fuse_T : Type := VhL [pm, vi, vi] × OShL mach → Option ((VhL [.s (.e (.st .res))] × OShL mach) ⊕ (VhL [.agg []] × OShL machP))
noncomputable abbrev fuse_C (sp : fuse_T) : Con := cq [pm, vi, vi] mach [.s (.e (.st .res))] mach machP sp
theorem fuse_g : Callable Tryz.prog 50 := ⟨Tryz.f50, body Tryz.f50, by kernel_rfl, by kernel_rfl, by kernel_rfl⟩
theorem fuse_raw (sp_nodeAt : nodeAt_T) (sp_load : load_T) (sp_store : store_T) (sp_retire : retire_T) (sp_set : set_T) (sp_next : next_T) (sp_edge : edge_T) (sp_prop : prop_T) (sp_none : none_T) (sp_failed : failed_T) (sp_known : known_T) (sp_walkF : walkF_T) (sp_holdF : holdF_T) (sp_fuseL1 : VhL fuseL1vs × OShL fuseL1os → Option fuseL1fin.Y) (sp_fuseL0 : VhL fuseL0vs × OShL fuseL0os → Option fuseL0fin.Y) (sp_fuseL2 : VhL fuseL2vs × OShL fuseL2os → Option fuseL2fin.Y) (a : Int) (b : Int) (c : Cfg) (got : List Int) (held : List Int) (did : List Acc) : runQ Tryz.f50 [pm, vi, vi] mach [.s (.e (.st .res))] mach machP [(77, nodeAt_C sp_nodeAt), (80, load_C sp_load), (75, store_C sp_store), (85, retire_C sp_retire), (76, set_C sp_set), (103, next_C sp_next), (82, edge_C sp_edge), (86, prop_C sp_prop), (74, none_C sp_none), (51, failed_C sp_failed), (78, known_C sp_known), (87, walkF_C sp_walkF), (99, holdF_C sp_holdF)] [(14, LCon.of Tryz.f50.ntmps [2, 3, 4, 6, 7, 8, 11, 12, 13, 14, 43, 44] fuseL1vs fuseL1os fuseL1fin sp_fuseL1), (10, LCon.of Tryz.f50.ntmps [2, 3, 4, 6, 7, 8, 43, 44] fuseL0vs fuseL0os fuseL0fin sp_fuseL0), (27, LCon.of Tryz.f50.ntmps [2, 3, 6, 7, 8, 15] fuseL2vs fuseL2os fuseL2fin sp_fuseL2)] [] ((((), a, b, ()), ((c, got, (), held, ()), did, ())) : VhL [pm, vi, vi] × OShL mach) = (bif a == b then (sp_failed ((5, ()), ())).bind fun val => some (Sum.inl ((val.1.1, ()), (c, got, (), held, ()), did, ()))
else
  (sp_known (((), [a, b], ()), (c, got, (), held, ()), did, ())).bind fun val =>
    selim val
      (fun val =>
        bif !val.1.1 then (sp_failed ((2, ()), ())).bind fun val_1 => some (Sum.inl ((val_1.1.1, ()), (val.2.1.1, val.2.1.2.1, (), val.2.1.2.2.2.1, ()), val.2.2.1, ()))
        else
          (sp_holdF (((), b, [a, b], ((), (), (), ()), ()), (val.2.1.1, val.2.1.2.1, (), val.2.1.2.2.2.1, ()), ((), ()), (a, ()), ((), 0, 0, ()), val.2.2.1, ())).bind fun val =>
            selim val
              (fun val =>
                bif !val.1.2.1 then (sp_failed ((2, ()), ())).bind fun val_1 => some (Sum.inl ((val_1.1.1, ()), (val.2.1.1, val.2.1.2.1, (), val.2.1.2.2.2.1, ()), val.2.2.2.2.2.1, ()))
                else
                  (sp_fuseL0
                        ((b, (), (), (), (), (), (1, 3, 1, 2, 2, 4, 2, 1, ()), 0, ()), (val.2.1.1, val.2.1.2.1, (), val.2.1.2.2.2.1, ()), val.2.2.2.2.2.1, ((), ()), (val.2.2.2.1.1, ()),
                          (Res.mk 0 0 [] [] [], ()), ((), val.2.2.2.2.1.2.1, val.2.2.2.2.1.2.2.1, ()), ((), val.1.1.2.1, val.1.1.2.2.1, ()), ())).bind
                    fun val =>
                    selim val
                      (fun val =>
                        (sp_load
                              ((((), val.2.2.2.2.2.2.1.2.1, val.2.2.2.2.2.2.1.2.2.1, ()), 3, ()), (val.2.1.1, val.2.1.2.1, (), val.2.1.2.2.2.1, ()), val.2.2.1, ())).bind
                          fun val_1 =>
                          selim val_1
                            (fun val_2 =>
                              (sp_prop (((), val_2.1.1, ()), (val_2.2.1.1, val_2.2.1.2.1, (), val_2.2.1.2.2.2.1, ()), val_2.2.2.1, ())).bind fun val_3 =>
                                selim val_3
                                  (fun val_4 =>
                                    (sp_fuseL2
                                          ((val.1.1, (), (), (), (), (), ()), (val_4.2.1.1, val_4.2.1.2.1, (), val_4.2.1.2.2.2.1, ()), val_4.2.2.1, ((), ()), (val.2.2.2.2.1.1, ()),
                                            ((), val.2.2.2.2.2.1.2.1, val.2.2.2.2.2.1.2.2.1, ()), ((), val.2.2.2.2.2.2.1.2.1, val.2.2.2.2.2.2.1.2.2.1, ()),
                                            ((), val_4.1.1.2.1, val_4.1.1.2.2.1, ()), ())).bind
                                      fun val =>
                                      selim val
                                        (fun val =>
                                          (sp_nodeAt ((val.1.1, ()), ())).bind fun val_5 =>
                                            (sp_set (((), val_5.1.1, 0, ()), (val.2.1.1, val.2.1.2.1, (), val.2.1.2.2.2.1, ()), val.2.2.1, ())).bind fun val_6 =>
                                              selim val_6
                                                (fun val_7 =>
                                                  (sp_retire
                                                        ((((), val.2.2.2.2.2.1.2.1, val.2.2.2.2.2.1.2.2.1, ()), ()), (val_7.2.1.1, val_7.2.1.2.1, (), val_7.2.1.2.2.2.1, ()),
                                                          val_7.2.2.1, ())).bind
                                                    fun val =>
                                                    selim val (fun val => some (Sum.inl ((Res.mk 0 0 [] [] [], ()), (val.2.1.1, val.2.1.2.1, (), val.2.1.2.2.2.1, ()), val.2.2.1, ()))) fun val =>
                                                      some (Sum.inr (((), ()), (val.2.1.1, val.2.1.2.1, (), (), ()), val.2.2.1, ())))
                                                fun val => some (Sum.inr (((), ()), (val.2.1.1, val.2.1.2.1, (), (), ()), val.2.2.1, ())))
                                        fun val => some (Sum.inr (((), ()), (val.2.1.1, val.2.1.2.1, (), (), ()), val.2.2.1, ())))
                                  fun val => some (Sum.inr (((), ()), (val.2.1.1, val.2.1.2.1, (), (), ()), val.2.2.1, ())))
                            fun val => some (Sum.inr (((), ()), (val.2.1.1, val.2.1.2.1, (), (), ()), val.2.2.1, ())))
                      fun val => some (Sum.inr (((), ()), (val.2.1.1, val.2.1.2.1, (), (), ()), val.2.2.1, ())))
              fun val =>
              selim val
                (fun val =>
                  bif !val.1.2.1 then (sp_failed ((2, ()), ())).bind fun val_1 => some (Sum.inl ((val_1.1.1, ()), (val.2.1.1, val.2.1.2.1, (), val.2.1.2.2.2.1, ()), val.2.2.2.2.2.1, ()))
                  else none)
                fun val => some (Sum.inr (((), ()), (val.2.1.1, val.2.1.2.1, (), (), ()), val.2.2.2.2.2.1, ())))
      fun val => some (Sum.inr (((), ()), (val.2.1.1, val.2.1.2.1, (), (), ()), val.2.2.1, ()))) := by kernel_rfl
theorem fuse_ok : Sound Tryz.prog gl 50 (fuse_C (Ifc.spec fuseI)) := by
  refine cqk (fn := Tryz.f50) (G := [(77, nodeAt_C (Ifc.spec nodeAtI)), (80, load_C (Ifc.spec loadI)), (75, store_C (Ifc.spec storeI)), (85, retire_C (Ifc.spec retireI)), (76, set_C (Ifc.spec setI)), (103, next_C (Ifc.spec nextI)), (82, edge_C (Ifc.spec edgeI)), (86, prop_C (Ifc.spec propI)), (74, none_C (Ifc.spec noneI)), (51, failed_C (Ifc.spec failedI)), (78, known_C (Ifc.spec knownI)), (87, walkF_C (Ifc.spec walkFI)), (99, holdF_C (Ifc.spec holdFI))]) (GOk.cons nodeAt_g nodeAt_ok (GOk.cons load_g load_ok (GOk.cons store_g store_ok (GOk.cons retire_g retire_ok (GOk.cons set_g set_ok (GOk.cons next_g next_ok (GOk.cons edge_g edge_ok (GOk.cons prop_g prop_ok (GOk.cons none_g none_ok (GOk.cons failed_g failed_ok (GOk.cons known_g known_ok (GOk.cons walkF_g walkF_ok (GOk.cons holdF_g holdF_ok (GOk.nil)))))))))))))) (by kernel_rfl) (by kernel_rfl) (Lc := [(14, LCon.of Tryz.f50.ntmps [2, 3, 4, 6, 7, 8, 11, 12, 13, 14, 43, 44] fuseL1vs fuseL1os fuseL1fin (Ifc.spec fuseL1I)), (10, LCon.of Tryz.f50.ntmps [2, 3, 4, 6, 7, 8, 43, 44] fuseL0vs fuseL0os fuseL0fin (Ifc.spec fuseL0I)), (27, LCon.of Tryz.f50.ntmps [2, 3, 6, 7, 8, 15] fuseL2vs fuseL2os fuseL2fin (Ifc.spec fuseL2I))]) (nh := []) (lcok (bs := [getL (body Tryz.f50) 0, getL (body Tryz.f50) 1, getL (body Tryz.f50) 2]) (by kernel_rfl) ⟨lone_ok (q := (10, LCon.of Tryz.f50.ntmps [2, 3, 4, 6, 7, 8, 43, 44] fuseL0vs fuseL0os fuseL0fin (Ifc.spec fuseL0I))) (by kernel_rfl) fuseL0_ok, lone_ok (q := (14, LCon.of Tryz.f50.ntmps [2, 3, 4, 6, 7, 8, 11, 12, 13, 14, 43, 44] fuseL1vs fuseL1os fuseL1fin (Ifc.spec fuseL1I))) (by kernel_rfl) fuseL1_ok, lone_ok (q := (27, LCon.of Tryz.f50.ntmps [2, 3, 6, 7, 8, 15] fuseL2vs fuseL2os fuseL2fin (Ifc.spec fuseL2I))) (by kernel_rfl) fuseL2_ok, trivial⟩) ?_
  rintro ⟨⟨_, a, b, _⟩, ⟨⟨c, got, _, held, _⟩, did, _⟩⟩
  refine (fuse_raw (Ifc.spec nodeAtI) (Ifc.spec loadI) (Ifc.spec storeI) (Ifc.spec retireI) (Ifc.spec setI) (Ifc.spec nextI) (Ifc.spec edgeI) (Ifc.spec propI) (Ifc.spec noneI) (Ifc.spec failedI) (Ifc.spec knownI) (Ifc.spec walkFI) (Ifc.spec holdFI) (Ifc.spec fuseL1I) (Ifc.spec fuseL0I) (Ifc.spec fuseL2I) a b c got held did).trans ?_
  show _ = outG (fuseI.enc (((), a, b, ()), ((c, got, (), held, ()), did, ()))) (fuseI.stop (((), a, b, ()), ((c, got, (), held, ()), did, ()))) ((fuseTr a b c got held).exec got did)
  unfold fuseTr
  refine cond_out (fun _ => ?_) (fun _ => ?_)
  · refine (retI rfl).trans ?_
    dsimp only [selim, cond_true, cond_false, Bool.not_true, Bool.not_false, one, none1, mI, nodeAtI, loadI, storeI, retireI, setI, nextI, edgeI, propI, noneI, failedI, knownI, walkFI, holdFI, fuseL1I, fuseL0I, fuseL2I]
    rfl
  · refine bindI rfl rfl (fun x0 d0 => ?_) (fun d => rfl)
    dsimp only [selim, cond_true, cond_false, Bool.not_true, Bool.not_false, one, none1, mI, nodeAtI, loadI, storeI, retireI, setI, nextI, edgeI, propI, noneI, failedI, knownI, walkFI, holdFI, fuseL1I, fuseL0I, fuseL2I]
    refine cond_out (fun _ => ?_) (fun _ => ?_)
    · refine (retI rfl).trans ?_
      dsimp only [selim, cond_true, cond_false, Bool.not_true, Bool.not_false, one, none1, mI, nodeAtI, loadI, storeI, retireI, setI, nextI, edgeI, propI, noneI, failedI, knownI, walkFI, holdFI, fuseL1I, fuseL0I, fuseL2I]
      rfl
    · refine bindI rfl rfl (fun b1 d1 => ?_) (fun d => rfl)
      rcases b1 with x1 | y1
      · dsimp only [selim, cond_true, cond_false, Bool.not_true, Bool.not_false, one, none1, mI, nodeAtI, loadI, storeI, retireI, setI, nextI, edgeI, propI, noneI, failedI, knownI, walkFI, holdFI, fuseL1I, fuseL0I, fuseL2I]
        try (first | refine (cond_t rfl).trans ?_ | refine (cond_f rfl).trans ?_)
        refine cond_out (fun _ => ?_) (fun _ => ?_)
        · refine (retI rfl).trans ?_
          dsimp only [selim, cond_true, cond_false, Bool.not_true, Bool.not_false, one, none1, mI, nodeAtI, loadI, storeI, retireI, setI, nextI, edgeI, propI, noneI, failedI, knownI, walkFI, holdFI, fuseL1I, fuseL0I, fuseL2I]
          rfl
        · refine bindI rfl rfl (fun x2 d2 => ?_) (fun d => rfl)
          dsimp only [selim, cond_true, cond_false, Bool.not_true, Bool.not_false, one, none1, mI, nodeAtI, loadI, storeI, retireI, setI, nextI, edgeI, propI, noneI, failedI, knownI, walkFI, holdFI, fuseL1I, fuseL0I, fuseL2I]
          refine bindI rfl rfl (fun x3 d3 => ?_) (fun d => rfl)
          dsimp only [selim, cond_true, cond_false, Bool.not_true, Bool.not_false, one, none1, mI, nodeAtI, loadI, storeI, retireI, setI, nextI, edgeI, propI, noneI, failedI, knownI, walkFI, holdFI, fuseL1I, fuseL0I, fuseL2I]
          refine (retI rfl).trans ?_
          dsimp only [selim, cond_true, cond_false, Bool.not_true, Bool.not_false, one, none1, mI, nodeAtI, loadI, storeI, retireI, setI, nextI, edgeI, propI, noneI, failedI, knownI, walkFI, holdFI, fuseL1I, fuseL0I, fuseL2I]
          refine bindI rfl rfl (fun x5 d5 => ?_) (fun d => rfl)
          dsimp only [selim, cond_true, cond_false, Bool.not_true, Bool.not_false, one, none1, mI, nodeAtI, loadI, storeI, retireI, setI, nextI, edgeI, propI, noneI, failedI, knownI, walkFI, holdFI, fuseL1I, fuseL0I, fuseL2I]
          refine (retI rfl).trans ?_
          dsimp only [selim, cond_true, cond_false, Bool.not_true, Bool.not_false, one, none1, mI, nodeAtI, loadI, storeI, retireI, setI, nextI, edgeI, propI, noneI, failedI, knownI, walkFI, holdFI, fuseL1I, fuseL0I, fuseL2I]
          refine bindI rfl rfl (fun x7 d7 => ?_) (fun d => rfl)
          dsimp only [selim, cond_true, cond_false, Bool.not_true, Bool.not_false, one, none1, mI, nodeAtI, loadI, storeI, retireI, setI, nextI, edgeI, propI, noneI, failedI, knownI, walkFI, holdFI, fuseL1I, fuseL0I, fuseL2I]
          refine bindI rfl rfl (fun x8 d8 => ?_) (fun d => rfl)
          dsimp only [selim, cond_true, cond_false, Bool.not_true, Bool.not_false, one, none1, mI, nodeAtI, loadI, storeI, retireI, setI, nextI, edgeI, propI, noneI, failedI, knownI, walkFI, holdFI, fuseL1I, fuseL0I, fuseL2I]
          rfl
      · dsimp only [selim, cond_true, cond_false, Bool.not_true, Bool.not_false, one, none1, mI, nodeAtI, loadI, storeI, retireI, setI, nextI, edgeI, propI, noneI, failedI, knownI, walkFI, holdFI, fuseL1I, fuseL0I, fuseL2I]
        try (first | refine (cond_t rfl).trans ?_ | refine (cond_f rfl).trans ?_)
        refine (retI rfl).trans ?_
        dsimp only [selim, cond_true, cond_false, Bool.not_true, Bool.not_false, one, none1, mI, nodeAtI, loadI, storeI, retireI, setI, nextI, edgeI, propI, noneI, failedI, knownI, walkFI, holdFI, fuseL1I, fuseL0I, fuseL2I]
        rfl
end Go.Ax.Cd
/- The package code by contracts (printed by wip/tools/con3.py). -/
namespace Go.Ax.Cd
open Go.Proofs
set_option linter.unusedVariables false
set_option maxRecDepth 100000
def programTr (o : Opn) (c : Cfg) (got : List Int) (held : List Int) : T (Res × List Int) :=
 bif o.kind == 1 then
 (addTr c got held).bind fun x0 =>
 .ret (x0.1, x0.2)
 else
 bif o.kind == 2 then
 (linkTr o.a o.b c got held).bind fun x0 =>
 .ret (x0.1, x0.2)
 else
 bif o.kind == 3 then
 (cutTr o.a c got held).bind fun x0 =>
 .ret (x0.1, x0.2)
 else
 bif o.kind == 4 then
 (setPropTr o.a o.k o.v c got held).bind fun x0 =>
 .ret (x0.1, x0.2)
 else
 bif o.kind == 5 then
 (delPropTr o.a o.k c got held).bind fun x0 =>
 .ret (x0.1, x0.2)
 else
 bif o.kind == 6 then
 (lookPTr o.a c got held).bind fun x0 =>
 .ret (x0, held)
 else
 bif o.kind == 7 then
 (lookNTr o.a c got held).bind fun x0 =>
 .ret (x0, held)
 else
 bif o.kind == 8 then
 (dropTr o.a c got held).bind fun x0 =>
 .ret (x0.1, x0.2)
 else
 bif o.kind == 9 then
 (fuseTr o.a o.b c got held).bind fun x0 =>
 .ret (x0.1, x0.2)
 else
 .ret (Res.mk 1 0 [] [] [], held)
@[reducible] def programI : Ifc (VhL [pm, .s (.e (.st .opn))] × OShL mach) ((VhL [.s (.e (.st .res))] × OShL mach) ⊕ (VhL [.agg []] × OShL machP)) where
  α := Res × List Int
  tr x := programTr x.1.2.1 x.2.1.1 x.2.1.2.1 x.2.1.2.2.2.1
  got x := x.2.1.2.1
  did x := x.2.2.1
  enc x a d := Sum.inl (((a.1, ()), ((x.2.1.1, x.2.1.2.1, (), a.2, ()), d, ())))
  stop x d := Sum.inr ((((), ()), ((x.2.1.1, x.2.1.2.1, (), (), ()), d, ())))
abbrev program_T : Type := VhL [pm, .s (.e (.st .opn))] × OShL mach → Option ((VhL [.s (.e (.st .res))] × OShL mach) ⊕ (VhL [.agg []] × OShL machP))
noncomputable abbrev program_C (sp : program_T) : Con := cq [pm, .s (.e (.st .opn))] mach [.s (.e (.st .res))] mach machP sp
theorem program_g : Callable Tryz.prog 27 := ⟨Tryz.f27, body Tryz.f27, by kernel_rfl, by kernel_rfl, by kernel_rfl⟩
theorem program_raw (sp_failed : failed_T) (sp_add : add_T) (sp_link : link_T) (sp_cut : cut_T) (sp_setProp : setProp_T) (sp_delProp : delProp_T) (sp_lookP : lookP_T) (sp_lookN : lookN_T) (sp_drop : drop_T) (sp_fuse : fuse_T) (o : Opn) (c : Cfg) (got : List Int) (held : List Int) (did : List Acc) : runQ Tryz.f27 [pm, .s (.e (.st .opn))] mach [.s (.e (.st .res))] mach machP [(51, failed_C sp_failed), (41, add_C sp_add), (42, link_C sp_link), (43, cut_C sp_cut), (44, setProp_C sp_setProp), (45, delProp_C sp_delProp), (46, lookP_C sp_lookP), (46, lookN_C sp_lookN), (49, drop_C sp_drop), (50, fuse_C sp_fuse)] [] [] ((((), o, ()), ((c, got, (), held, ()), did, ())) : VhL [pm, .s (.e (.st .opn))] × OShL mach) = (bif o.kind == 1 then (sp_add (((), ()), (c, got, (), held, ()), did, ())).bind fun val => selim val (fun val => some (Sum.inl ((val.1.1, ()), (val.2.1.1, val.2.1.2.1, (), val.2.1.2.2.2.1, ()), val.2.2.1, ()))) fun val => some (Sum.inr (((), ()), (val.2.1.1, val.2.1.2.1, (), (), ()), val.2.2.1, ()))
else
  bif o.kind == 2 then
    (sp_link (((), o.a, o.b, ()), (c, got, (), held, ()), did, ())).bind fun val =>
      selim val (fun val => some (Sum.inl ((val.1.1, ()), (val.2.1.1, val.2.1.2.1, (), val.2.1.2.2.2.1, ()), val.2.2.1, ()))) fun val =>
        some (Sum.inr (((), ()), (val.2.1.1, val.2.1.2.1, (), (), ()), val.2.2.1, ()))
  else
    bif o.kind == 3 then
      (sp_cut (((), o.a, ()), (c, got, (), held, ()), did, ())).bind fun val =>
        selim val (fun val => some (Sum.inl ((val.1.1, ()), (val.2.1.1, val.2.1.2.1, (), val.2.1.2.2.2.1, ()), val.2.2.1, ()))) fun val =>
          some (Sum.inr (((), ()), (val.2.1.1, val.2.1.2.1, (), (), ()), val.2.2.1, ()))
    else
      bif o.kind == 4 then
        (sp_setProp (((), o.a, o.k, o.v, ()), (c, got, (), held, ()), did, ())).bind fun val =>
          selim val (fun val => some (Sum.inl ((val.1.1, ()), (val.2.1.1, val.2.1.2.1, (), val.2.1.2.2.2.1, ()), val.2.2.1, ()))) fun val =>
            some (Sum.inr (((), ()), (val.2.1.1, val.2.1.2.1, (), (), ()), val.2.2.1, ()))
      else
        bif o.kind == 5 then
          (sp_delProp (((), o.a, o.k, ()), (c, got, (), held, ()), did, ())).bind fun val =>
            selim val (fun val => some (Sum.inl ((val.1.1, ()), (val.2.1.1, val.2.1.2.1, (), val.2.1.2.2.2.1, ()), val.2.2.1, ()))) fun val =>
              some (Sum.inr (((), ()), (val.2.1.1, val.2.1.2.1, (), (), ()), val.2.2.1, ()))
        else
          bif o.kind == 6 then
            (sp_lookP (((), o.a, ((), ()), ()), (c, got, (), held, ()), did, ())).bind fun val =>
              selim val (fun val => some (Sum.inl ((val.1.1, ()), (val.2.1.1, val.2.1.2.1, (), val.2.1.2.2.2.1, ()), val.2.2.1, ()))) fun val =>
                some (Sum.inr (((), ()), (val.2.1.1, val.2.1.2.1, (), (), ()), val.2.2.1, ()))
          else
            bif o.kind == 7 then
              (sp_lookN (((), o.a, ((), ()), ()), (c, got, (), held, ()), did, ())).bind fun val =>
                selim val (fun val => some (Sum.inl ((val.1.1, ()), (val.2.1.1, val.2.1.2.1, (), val.2.1.2.2.2.1, ()), val.2.2.1, ()))) fun val =>
                  some (Sum.inr (((), ()), (val.2.1.1, val.2.1.2.1, (), (), ()), val.2.2.1, ()))
            else
              bif o.kind == 8 then
                (sp_drop (((), o.a, ()), (c, got, (), held, ()), did, ())).bind fun val =>
                  selim val (fun val => some (Sum.inl ((val.1.1, ()), (val.2.1.1, val.2.1.2.1, (), val.2.1.2.2.2.1, ()), val.2.2.1, ()))) fun val =>
                    some (Sum.inr (((), ()), (val.2.1.1, val.2.1.2.1, (), (), ()), val.2.2.1, ()))
              else
                bif o.kind == 9 then
                  (sp_fuse (((), o.a, o.b, ()), (c, got, (), held, ()), did, ())).bind fun val =>
                    selim val (fun val => some (Sum.inl ((val.1.1, ()), (val.2.1.1, val.2.1.2.1, (), val.2.1.2.2.2.1, ()), val.2.2.1, ()))) fun val =>
                      some (Sum.inr (((), ()), (val.2.1.1, val.2.1.2.1, (), (), ()), val.2.2.1, ()))
                else (sp_failed ((1, ()), ())).bind fun val => some (Sum.inl ((val.1.1, ()), (c, got, (), held, ()), did, ()))) := by kernel_rfl
theorem program_ok : Sound Tryz.prog gl 27 (program_C (Ifc.spec programI)) := by
  refine cqk (fn := Tryz.f27) (G := [(51, failed_C (Ifc.spec failedI)), (41, add_C (Ifc.spec addI)), (42, link_C (Ifc.spec linkI)), (43, cut_C (Ifc.spec cutI)), (44, setProp_C (Ifc.spec setPropI)), (45, delProp_C (Ifc.spec delPropI)), (46, lookP_C (Ifc.spec lookPI)), (46, lookN_C (Ifc.spec lookNI)), (49, drop_C (Ifc.spec dropI)), (50, fuse_C (Ifc.spec fuseI))]) (GOk.cons failed_g failed_ok (GOk.cons add_g add_ok (GOk.cons link_g link_ok (GOk.cons cut_g cut_ok (GOk.cons setProp_g setProp_ok (GOk.cons delProp_g delProp_ok (GOk.cons lookP_g lookP_ok (GOk.cons lookN_g lookN_ok (GOk.cons drop_g drop_ok (GOk.cons fuse_g fuse_ok (GOk.nil))))))))))) (by kernel_rfl) (by kernel_rfl) (Lc := []) (nh := []) (noloopN (by kernel_rfl)) ?_
  rintro ⟨⟨_, o, _⟩, ⟨⟨c, got, _, held, _⟩, did, _⟩⟩
  refine (program_raw (Ifc.spec failedI) (Ifc.spec addI) (Ifc.spec linkI) (Ifc.spec cutI) (Ifc.spec setPropI) (Ifc.spec delPropI) (Ifc.spec lookPI) (Ifc.spec lookNI) (Ifc.spec dropI) (Ifc.spec fuseI) o c got held did).trans ?_
  show _ = outG (programI.enc (((), o, ()), ((c, got, (), held, ()), did, ()))) (programI.stop (((), o, ()), ((c, got, (), held, ()), did, ()))) ((programTr o c got held).exec got did)
  unfold programTr
  repeat' (first | refine cond_out (fun _ => ?_) (fun _ => ?_) | (refine (retI (by with_reducible rfl)).trans ?_; try dsimp only [selim, cond_true, cond_false, Bool.not_true, Bool.not_false, one, none1, mI, failedI, addI, linkI, cutI, setPropI, delPropI, lookPI, lookNI, dropI, fuseI]) | (refine bindI rfl rfl (fun _ _ => ?_) (fun _ => rfl); try dsimp only [selim, cond_true, cond_false, Bool.not_true, Bool.not_false, one, none1, mI, failedI, addI, linkI, cutI, setPropI, delPropI, lookPI, lookNI, dropI, fuseI]) | rfl)
end Go.Ax.Cd
