/- The package code by contracts (printed by wip/tools/con3.py). -/
import Derived.Test.YteoeolfcpmalfaaGreatDoorQ14
import Derived.Test.YteoeolfcpmalfaaGreatDoorQ25
namespace Go.Ax.Cd
open Go.Proofs
set_option linter.unusedVariables false
set_option maxRecDepth 100000
abbrev cdhq2 : List OSh := [.box [.e (.st .cfg), .e (.sl .int), .own 3, .any], .any, .any, .arr (.st .acc), .any, .any, .any]
abbrev cdhq1 : List OSh := [.box [.e (.st .cfg), .e (.sl .int), .own 3, .sln .int], .box [.ptr 4 3], .box [.e (.st .sid)], .arr (.st .acc), .box [.e .int, .e .int, .e (.sl (.st .pr)), .own 5, .own 6], .arr (.st .en), .arr (.st .en)]
abbrev cdhq0 : List OSh := [.box [.e (.st .cfg), .e (.sl .int), .own 3, .sln .int], .box [.ptr 4 4], .box [.e (.st .sid)], .arr (.st .acc), .box [.e .int, .e .int, .e (.sl (.st .pr)), .own 5, .own 6], .arr (.st .en), .arr (.st .en)]
def endsCoTr (w : Int) (r : Int) (c : Cfg) (got : List Int) (held : List Int) (sd : Sid) (er : Int) (id : Int) (ps : List Pr) (u1 : List En) (u2 : List En) : T (List En) :=
 (loadTr w r 0 c got held).bind fun x0 =>
 (loadTr w r sd.other c got held).bind fun x1 =>
 bif decide (u1.length + [En.mk x0 x1].length ≤ 1000000000) then
 .ret (u1 ++ [En.mk x0 x1])
 else
 .bot
@[reducible] def endsCoI : Ifc (VhL [rc, .s (.ptr 1 0), .s (.ptr 2 0)] × OShL cdhq1) ((VhL [] × OShL cdhq1) ⊕ (VhL [.agg []] × OShL cdhq2)) where
  α := List En
  tr x := endsCoTr x.1.1.2.1 x.1.1.2.2.1 x.2.1.1 x.2.1.2.1 x.2.1.2.2.2.1 x.2.2.2.1.1 x.2.2.2.2.2.1.1 x.2.2.2.2.2.1.2.1 x.2.2.2.2.2.1.2.2.1 x.2.2.2.2.2.2.1 x.2.2.2.2.2.2.2.1
  got x := x.2.1.2.1
  did x := x.2.2.2.2.1
  enc x a d := Sum.inl (((), ((x.2.1.1, x.2.1.2.1, (), x.2.1.2.2.2.1, ()), ((), ()), (x.2.2.2.1.1, ()), d, (x.2.2.2.2.2.1.1, x.2.2.2.2.2.1.2.1, x.2.2.2.2.2.1.2.2.1, (), (), ()), a, x.2.2.2.2.2.2.2.1, ())))
  stop x d := Sum.inr ((((), ()), ((x.2.1.1, x.2.1.2.1, (), (), ()), (), (), d, (), (), (), ())))
abbrev endsCo_T : Type := VhL [rc, .s (.ptr 1 0), .s (.ptr 2 0)] × OShL cdhq1 → Option ((VhL [] × OShL cdhq1) ⊕ (VhL [.agg []] × OShL cdhq2))
noncomputable abbrev endsCo_C (sp : endsCo_T) : Con := cq [rc, .s (.ptr 1 0), .s (.ptr 2 0)] cdhq1 [] cdhq1 cdhq2 sp
theorem endsCo_g : Callable Tryz.prog 96 := ⟨Tryz.f96, body Tryz.f96, by kernel_rfl, by kernel_rfl, by kernel_rfl⟩
theorem endsCo_raw (sp_load : load_T) (w : Int) (r : Int) (c : Cfg) (got : List Int) (held : List Int) (sd : Sid) (did : List Acc) (er : Int) (id : Int) (ps : List Pr) (u1 : List En) (u2 : List En) : runQ Tryz.f96 [rc, .s (.ptr 1 0), .s (.ptr 2 0)] cdhq1 [] cdhq1 cdhq2 [(80, load_C sp_load)] [] [] (((((), w, r, ()), (), (), ()), ((c, got, (), held, ()), ((), ()), (sd, ()), did, (er, id, ps, (), (), ()), u1, u2, ())) : VhL [rc, .s (.ptr 1 0), .s (.ptr 2 0)] × OShL cdhq1) = ((sp_load ((((), w, r, ()), 0, ()), (c, got, (), held, ()), did, ())).bind fun val => selim val (fun val => (sp_load ((((), w, r, ()), sd.other, ()), (val.2.1.1, val.2.1.2.1, (), val.2.1.2.2.2.1, ()), val.2.2.1, ())).bind fun val_1 => selim val_1 (fun val_2 => bif decide (u1.length + [En.mk val.1.1 val_2.1.1].length ≤ 1000000000) then some (Sum.inl ((), (val_2.2.1.1, val_2.2.1.2.1, (), val_2.2.1.2.2.2.1, ()), ((), ()), (sd, ()), val_2.2.2.1, (er, id, ps, (), (), ()), u1 ++ [En.mk val.1.1 val_2.1.1], u2, ())) else none) fun val => some (Sum.inr (((), ()), (val.2.1.1, val.2.1.2.1, (), (), ()), (), (), val.2.2.1, (), (), (), ()))) fun val => some (Sum.inr (((), ()), (val.2.1.1, val.2.1.2.1, (), (), ()), (), (), val.2.2.1, (), (), (), ()))) := by kernel_rfl
theorem endsCo_ok : Sound Tryz.prog gl 96 (endsCo_C (Ifc.spec endsCoI)) := by
  refine cqk (fn := Tryz.f96) (G := [(80, load_C (Ifc.spec loadI))]) (GOk.cons load_g load_ok (GOk.nil)) (by kernel_rfl) (by kernel_rfl) (Lc := []) (nh := []) (noloopN (by kernel_rfl)) ?_
  rintro ⟨⟨⟨_, w, r, _⟩, _, _, _⟩, ⟨⟨c, got, _, held, _⟩, ⟨_, _⟩, ⟨sd, _⟩, did, ⟨er, id, ps, _, _, _⟩, u1, u2, _⟩⟩
  refine (endsCo_raw (Ifc.spec loadI) w r c got held sd did er id ps u1 u2).trans ?_
  show _ = outG (endsCoI.enc ((((), w, r, ()), (), (), ()), ((c, got, (), held, ()), ((), ()), (sd, ()), did, (er, id, ps, (), (), ()), u1, u2, ()))) (endsCoI.stop ((((), w, r, ()), (), (), ()), ((c, got, (), held, ()), ((), ()), (sd, ()), did, (er, id, ps, (), (), ()), u1, u2, ()))) ((endsCoTr w r c got held sd er id ps u1 u2).exec got did)
  unfold endsCoTr
  repeat' (first | refine cond_out (fun _ => ?_) (fun _ => ?_) | (refine bindI rfl rfl (fun _ _ => ?_) (fun _ => rfl); try dsimp only [selim, cond_true, cond_false, Bool.not_true, Bool.not_false, one, none1, mI, loadI]) | rfl)
abbrev eachOL0vs : List Vh := [.clo 96 [.ptr 1 0, .ptr 2 0], .s (.ptr 7 0), .s (.ptr 8 0)]
abbrev eachOL0os : List OSh := [.box [.e (.st .cfg), .e (.sl .int), .own 3, .sln .int], .box [.ptr 4 3], .box [.e (.st .sid)], .arr (.st .acc), .box [.e .int, .e .int, .e (.sl (.st .pr)), .own 5, .own 6], .arr (.st .en), .arr (.st .en), .box [.e (.st .sid)], .box [.ptr 0 0, .e .int, .e .int]]
noncomputable abbrev eachOL0fin : Fin := ((Fin.one 7 Tryz.f95.ntmps (.exit 0) [] [] cdhq1).or (Fin.pan 7 59 (.agg []) cdhq2))
def eachOL0Step (c : Cfg) (got : List Int) (held : List Int) (sd : Sid) (er : Int) (id : Int) (ps : List Pr) (u2 : List En) (v18 : Sid) (v20 : Int) (st : List En × Int) : T ((List En × Int) ⊕ (List En)) :=
 let u1 := st.1
 let v21 := st.2
 bif !v21 == 0 then
 (endsCoTr v20 v21 c got held sd er id ps u1 u2).bind fun x1 =>
 (nextTr v20 v21 v18.link c got held).bind fun x2 =>
 .ret (Sum.inl (x1, x2))
 else
 .ret (Sum.inr u1)
@[reducible] def eachOL0I : Ifc (VhL eachOL0vs × OShL eachOL0os) eachOL0fin.Y where
  α := List En
  tr x := T.loop (eachOL0Step x.2.1.1 x.2.1.2.1 x.2.1.2.2.2.1 x.2.2.2.1.1 x.2.2.2.2.2.1.1 x.2.2.2.2.2.1.2.1 x.2.2.2.2.2.1.2.2.1 x.2.2.2.2.2.2.2.1 x.2.2.2.2.2.2.2.2.1.1 x.2.2.2.2.2.2.2.2.2.1.2.1) (x.2.1.2.1.length + 10) (x.2.2.2.2.2.2.1, x.2.2.2.2.2.2.2.2.2.1.2.2.1)
  got x := x.2.1.2.1
  did x := x.2.2.2.2.1
  enc x a d := Sum.inl (((), ((x.2.1.1, x.2.1.2.1, (), x.2.1.2.2.2.1, ()), ((), ()), (x.2.2.2.1.1, ()), d, (x.2.2.2.2.2.1.1, x.2.2.2.2.2.1.2.1, x.2.2.2.2.2.1.2.2.1, (), (), ()), a, x.2.2.2.2.2.2.2.1, ())))
  stop x d := Sum.inr ((((), ()), ((x.2.1.1, x.2.1.2.1, (), (), ()), (), (), d, (), (), (), ())))
theorem eachOL0_raw (sp_load : load_T) (sp_next : next_T) (sp_edge : edge_T) (sp_none : none_T) (sp_endsCo : endsCo_T) (c : Cfg) (got : List Int) (held : List Int) (sd : Sid) (did : List Acc) (er : Int) (id : Int) (ps : List Pr) (u1 : List En) (u2 : List En) (v18 : Sid) (v20 : Int) (v21 : Int) : runW 7 Tryz.f95 0 [3, 6, 8] eachOL0vs eachOL0os eachOL0fin [(80, load_C sp_load), (103, next_C sp_next), (82, edge_C sp_edge), (74, none_C sp_none), (96, endsCo_C sp_endsCo)] [] [] (((((), (), ()), (), (), ()), ((c, got, (), held, ()), ((), ()), (sd, ()), did, (er, id, ps, (), (), ()), u1, u2, (v18, ()), ((), v20, v21, ()), ())) : VhL eachOL0vs × OShL eachOL0os) = ((sp_none ((((), v20, v21, ()), ()), (c, got, (), held, ()), did, ())).bind fun val => selim val (fun val => bif !val.1.1 then (sp_endsCo ((((), v20, v21, ()), (), (), ()), (val.2.1.1, val.2.1.2.1, (), val.2.1.2.2.2.1, ()), ((), ()), (sd, ()), val.2.2.1, (er, id, ps, (), (), ()), u1, u2, ())).bind fun val => selim val (fun val => (sp_next ((((), v20, v21, ()), v18.link, ()), (val.2.1.1, val.2.1.2.1, (), val.2.1.2.2.2.1, ()), val.2.2.2.2.1, ())).bind fun val_1 => selim val_1 (fun val_2 => some (Sum.inl ((((), (), ()), (), (), ()), (val_2.2.1.1, val_2.2.1.2.1, (), val_2.2.1.2.2.2.1, ()), ((), ()), (val.2.2.2.1.1, ()), val_2.2.2.1, (val.2.2.2.2.2.1.1, val.2.2.2.2.2.1.2.1, val.2.2.2.2.2.1.2.2.1, (), (), ()), val.2.2.2.2.2.2.1, val.2.2.2.2.2.2.2.1, (v18, ()), ((), val_2.1.1.2.1, val_2.1.1.2.2.1, ()), ()))) fun val => some (Sum.inr (Sum.inr (((), ()), (val.2.1.1, val.2.1.2.1, (), (), ()), (), (), val.2.2.1, (), (), (), ())))) fun val => some (Sum.inr (Sum.inr (((), ()), (val.2.1.1, val.2.1.2.1, (), (), ()), (), (), val.2.2.2.2.1, (), (), (), ()))) else some (Sum.inr (Sum.inl ((), (val.2.1.1, val.2.1.2.1, (), val.2.1.2.2.2.1, ()), ((), ()), (sd, ()), val.2.2.1, (er, id, ps, (), (), ()), u1, u2, ())))) fun val => some (Sum.inr (Sum.inr (((), ()), (val.2.1.1, val.2.1.2.1, (), (), ()), (), (), val.2.2.1, (), (), (), ())))) := by kernel_rfl
theorem eachOL0_ok : LOk Tryz.prog gl 7 (LCon.of Tryz.f95.ntmps [3, 6, 8] eachOL0vs eachOL0os eachOL0fin (Ifc.spec eachOL0I)) (getL (body Tryz.f95) 0) := by
  refine lwk (Lc := []) (nh := []) (G := [(80, load_C (Ifc.spec loadI)), (103, next_C (Ifc.spec nextI)), (82, edge_C (Ifc.spec edgeI)), (74, none_C (Ifc.spec noneI)), (96, endsCo_C (Ifc.spec endsCoI))]) (GOk.cons load_g load_ok (GOk.cons next_g next_ok (GOk.cons edge_g edge_ok (GOk.cons none_g none_ok (GOk.cons endsCo_g endsCo_ok (GOk.nil)))))) (noloopN (by kernel_rfl)) (Fin.or_ok (Fin.one_ok _ _ _ _) (Fin.pan_ok _ _ _)) ?_
  rintro ⟨⟨⟨_, _, _⟩, _, _, _⟩, ⟨⟨c, got, _, held, _⟩, ⟨_, _⟩, ⟨sd, _⟩, did, ⟨er, id, ps, _, _, _⟩, u1, u2, ⟨v18, _⟩, ⟨_, v20, v21, _⟩, _⟩⟩ y hy
  refine ⟨_, loopT_ok (eX := fun (st : List En × Int) (d : List Acc) => (let u1 := st.1; let v21 := st.2; ((((), (), ()), (), (), ()), ((c, got, (), held, ()), ((), ()), (sd, ()), d, (er, id, ps, (), (), ()), u1, u2, (v18, ()), ((), v20, v21, ()), ())) : VhL eachOL0vs × OShL eachOL0os)) (body := eachOL0Step c got held sd er id ps u2 v18 v20) (fun st d => ?_) _ (u1, v21) did y hy⟩
  obtain ⟨u1, v21⟩ := st
  refine (eachOL0_raw (Ifc.spec loadI) (Ifc.spec nextI) (Ifc.spec edgeI) (Ifc.spec noneI) (Ifc.spec endsCoI) c got held sd d er id ps u1 u2 v18 v20 v21).trans ?_
  unfold eachOL0Step
  repeat' (first | refine cond_out (fun _ => ?_) (fun _ => ?_) | (refine (retI (by with_reducible rfl)).trans ?_; try dsimp only [selim, cond_true, cond_false, Bool.not_true, Bool.not_false, one, none1, mI, loadI, nextI, edgeI, noneI, endsCoI]) | (refine bindI rfl rfl (fun _ _ => ?_) (fun _ => rfl); try dsimp only [selim, cond_true, cond_false, Bool.not_true, Bool.not_false, one, none1, mI, loadI, nextI, edgeI, noneI, endsCoI]) | rfl)
def eachOTr (w : Int) (r : Int) (s : Sid) (c : Cfg) (got : List Int) (held : List Int) (sd : Sid) (er : Int) (id : Int) (ps : List Pr) (u1 : List En) (u2 : List En) : T (List En) :=
 (loadTr w r s.head c got held).bind fun x0 =>
 (T.loop (eachOL0Step c got held sd er id ps u2 s 2) (got.length + 10) (u1, x0)).bind fun x2 =>
 .ret x2
@[reducible] def eachOI : Ifc (VhL [pm, rc, .s (.e (.st .sid)), .clo 96 [.ptr 1 0, .ptr 2 0]] × OShL cdhq1) ((VhL [] × OShL cdhq1) ⊕ (VhL [.agg []] × OShL cdhq2)) where
  α := List En
  tr x := eachOTr x.1.2.1.2.1 x.1.2.1.2.2.1 x.1.2.2.1 x.2.1.1 x.2.1.2.1 x.2.1.2.2.2.1 x.2.2.2.1.1 x.2.2.2.2.2.1.1 x.2.2.2.2.2.1.2.1 x.2.2.2.2.2.1.2.2.1 x.2.2.2.2.2.2.1 x.2.2.2.2.2.2.2.1
  got x := x.2.1.2.1
  did x := x.2.2.2.2.1
  enc x a d := Sum.inl (((), ((x.2.1.1, x.2.1.2.1, (), x.2.1.2.2.2.1, ()), ((), ()), (x.2.2.2.1.1, ()), d, (x.2.2.2.2.2.1.1, x.2.2.2.2.2.1.2.1, x.2.2.2.2.2.1.2.2.1, (), (), ()), a, x.2.2.2.2.2.2.2.1, ())))
  stop x d := Sum.inr ((((), ()), ((x.2.1.1, x.2.1.2.1, (), (), ()), (), (), d, (), (), (), ())))
abbrev eachO_T : Type := VhL [pm, rc, .s (.e (.st .sid)), .clo 96 [.ptr 1 0, .ptr 2 0]] × OShL cdhq1 → Option ((VhL [] × OShL cdhq1) ⊕ (VhL [.agg []] × OShL cdhq2))
noncomputable abbrev eachO_C (sp : eachO_T) : Con := cq [pm, rc, .s (.e (.st .sid)), .clo 96 [.ptr 1 0, .ptr 2 0]] cdhq1 [] cdhq1 cdhq2 sp
theorem eachO_g : Callable Tryz.prog 95 := ⟨Tryz.f95, body Tryz.f95, by kernel_rfl, by kernel_rfl, by kernel_rfl⟩
theorem eachO_raw (sp_load : load_T) (sp_next : next_T) (sp_edge : edge_T) (sp_none : none_T) (sp_endsCo : endsCo_T) (sp_eachOL0 : VhL eachOL0vs × OShL eachOL0os → Option eachOL0fin.Y) (w : Int) (r : Int) (s : Sid) (c : Cfg) (got : List Int) (held : List Int) (sd : Sid) (did : List Acc) (er : Int) (id : Int) (ps : List Pr) (u1 : List En) (u2 : List En) : runQ Tryz.f95 [pm, rc, .s (.e (.st .sid)), .clo 96 [.ptr 1 0, .ptr 2 0]] cdhq1 [] cdhq1 cdhq2 [(80, load_C sp_load), (103, next_C sp_next), (82, edge_C sp_edge), (74, none_C sp_none), (96, endsCo_C sp_endsCo)] [(2, LCon.of Tryz.f95.ntmps [3, 6, 8] eachOL0vs eachOL0os eachOL0fin sp_eachOL0)] [] ((((), ((), w, r, ()), s, ((), (), ()), ()), ((c, got, (), held, ()), ((), ()), (sd, ()), did, (er, id, ps, (), (), ()), u1, u2, ())) : VhL [pm, rc, .s (.e (.st .sid)), .clo 96 [.ptr 1 0, .ptr 2 0]] × OShL cdhq1) = ((sp_load ((((), w, r, ()), s.head, ()), (c, got, (), held, ()), did, ())).bind fun val => selim val (fun val => (sp_edge (((), val.1.1, ()), (val.2.1.1, val.2.1.2.1, (), val.2.1.2.2.2.1, ()), val.2.2.1, ())).bind fun val => selim val (fun val => (sp_eachOL0 ((((), (), ()), (), (), ()), (val.2.1.1, val.2.1.2.1, (), val.2.1.2.2.2.1, ()), ((), ()), (sd, ()), val.2.2.1, (er, id, ps, (), (), ()), u1, u2, (s, ()), ((), val.1.1.2.1, val.1.1.2.2.1, ()), ())).bind fun val => selim val (fun val => some (Sum.inl ((), (val.2.1.1, val.2.1.2.1, (), val.2.1.2.2.2.1, ()), ((), ()), (val.2.2.2.1.1, ()), val.2.2.2.2.1, (val.2.2.2.2.2.1.1, val.2.2.2.2.2.1.2.1, val.2.2.2.2.2.1.2.2.1, (), (), ()), val.2.2.2.2.2.2.1, val.2.2.2.2.2.2.2.1, ()))) fun val => some (Sum.inr (((), ()), (val.2.1.1, val.2.1.2.1, (), (), ()), (), (), val.2.2.2.2.1, (), (), (), ()))) fun val => some (Sum.inr (((), ()), (val.2.1.1, val.2.1.2.1, (), (), ()), (), (), val.2.2.1, (), (), (), ()))) fun val => some (Sum.inr (((), ()), (val.2.1.1, val.2.1.2.1, (), (), ()), (), (), val.2.2.1, (), (), (), ()))) := by kernel_rfl
theorem eachO_ok : Sound Tryz.prog gl 95 (eachO_C (Ifc.spec eachOI)) := by
  refine cqk (fn := Tryz.f95) (G := [(80, load_C (Ifc.spec loadI)), (103, next_C (Ifc.spec nextI)), (82, edge_C (Ifc.spec edgeI)), (74, none_C (Ifc.spec noneI)), (96, endsCo_C (Ifc.spec endsCoI))]) (GOk.cons load_g load_ok (GOk.cons next_g next_ok (GOk.cons edge_g edge_ok (GOk.cons none_g none_ok (GOk.cons endsCo_g endsCo_ok (GOk.nil)))))) (by kernel_rfl) (by kernel_rfl) (Lc := [(2, LCon.of Tryz.f95.ntmps [3, 6, 8] eachOL0vs eachOL0os eachOL0fin (Ifc.spec eachOL0I))]) (nh := []) (lcok (bs := [getL (body Tryz.f95) 0]) (by kernel_rfl) ⟨lone_ok (q := (2, LCon.of Tryz.f95.ntmps [3, 6, 8] eachOL0vs eachOL0os eachOL0fin (Ifc.spec eachOL0I))) (by kernel_rfl) eachOL0_ok, trivial⟩) ?_
  rintro ⟨⟨_, ⟨_, w, r, _⟩, s, ⟨_, _, _⟩, _⟩, ⟨⟨c, got, _, held, _⟩, ⟨_, _⟩, ⟨sd, _⟩, did, ⟨er, id, ps, _, _, _⟩, u1, u2, _⟩⟩
  refine (eachO_raw (Ifc.spec loadI) (Ifc.spec nextI) (Ifc.spec edgeI) (Ifc.spec noneI) (Ifc.spec endsCoI) (Ifc.spec eachOL0I) w r s c got held sd did er id ps u1 u2).trans ?_
  show _ = outG (eachOI.enc (((), ((), w, r, ()), s, ((), (), ()), ()), ((c, got, (), held, ()), ((), ()), (sd, ()), did, (er, id, ps, (), (), ()), u1, u2, ()))) (eachOI.stop (((), ((), w, r, ()), s, ((), (), ()), ()), ((c, got, (), held, ()), ((), ()), (sd, ()), did, (er, id, ps, (), (), ()), u1, u2, ()))) ((eachOTr w r s c got held sd er id ps u1 u2).exec got did)
  unfold eachOTr
  repeat' (first | (refine (retI (by with_reducible rfl)).trans ?_; try dsimp only [selim, cond_true, cond_false, Bool.not_true, Bool.not_false, one, none1, mI, loadI, nextI, edgeI, noneI, endsCoI, eachOL0I]) | (refine bindI rfl rfl (fun _ _ => ?_) (fun _ => rfl); try dsimp only [selim, cond_true, cond_false, Bool.not_true, Bool.not_false, one, none1, mI, loadI, nextI, edgeI, noneI, endsCoI, eachOL0I]) | rfl)
def endsCiTr (w : Int) (r : Int) (c : Cfg) (got : List Int) (held : List Int) (sd : Sid) (er : Int) (id : Int) (ps : List Pr) (u1 : List En) (u2 : List En) : T (List En) :=
 (loadTr w r 0 c got held).bind fun x0 =>
 (loadTr w r sd.other c got held).bind fun x1 =>
 bif decide (u2.length + [En.mk x0 x1].length ≤ 1000000000) then
 .ret (u2 ++ [En.mk x0 x1])
 else
 .bot
@[reducible] def endsCiI : Ifc (VhL [rc, .s (.ptr 1 0), .s (.ptr 2 0)] × OShL cdhq0) ((VhL [] × OShL cdhq0) ⊕ (VhL [.agg []] × OShL cdhq2)) where
  α := List En
  tr x := endsCiTr x.1.1.2.1 x.1.1.2.2.1 x.2.1.1 x.2.1.2.1 x.2.1.2.2.2.1 x.2.2.2.1.1 x.2.2.2.2.2.1.1 x.2.2.2.2.2.1.2.1 x.2.2.2.2.2.1.2.2.1 x.2.2.2.2.2.2.1 x.2.2.2.2.2.2.2.1
  got x := x.2.1.2.1
  did x := x.2.2.2.2.1
  enc x a d := Sum.inl (((), ((x.2.1.1, x.2.1.2.1, (), x.2.1.2.2.2.1, ()), ((), ()), (x.2.2.2.1.1, ()), d, (x.2.2.2.2.2.1.1, x.2.2.2.2.2.1.2.1, x.2.2.2.2.2.1.2.2.1, (), (), ()), x.2.2.2.2.2.2.1, a, ())))
  stop x d := Sum.inr ((((), ()), ((x.2.1.1, x.2.1.2.1, (), (), ()), (), (), d, (), (), (), ())))
abbrev endsCi_T : Type := VhL [rc, .s (.ptr 1 0), .s (.ptr 2 0)] × OShL cdhq0 → Option ((VhL [] × OShL cdhq0) ⊕ (VhL [.agg []] × OShL cdhq2))
noncomputable abbrev endsCi_C (sp : endsCi_T) : Con := cq [rc, .s (.ptr 1 0), .s (.ptr 2 0)] cdhq0 [] cdhq0 cdhq2 sp
theorem endsCi_g : Callable Tryz.prog 96 := ⟨Tryz.f96, body Tryz.f96, by kernel_rfl, by kernel_rfl, by kernel_rfl⟩
theorem endsCi_raw (sp_load : load_T) (w : Int) (r : Int) (c : Cfg) (got : List Int) (held : List Int) (sd : Sid) (did : List Acc) (er : Int) (id : Int) (ps : List Pr) (u1 : List En) (u2 : List En) : runQ Tryz.f96 [rc, .s (.ptr 1 0), .s (.ptr 2 0)] cdhq0 [] cdhq0 cdhq2 [(80, load_C sp_load)] [] [] (((((), w, r, ()), (), (), ()), ((c, got, (), held, ()), ((), ()), (sd, ()), did, (er, id, ps, (), (), ()), u1, u2, ())) : VhL [rc, .s (.ptr 1 0), .s (.ptr 2 0)] × OShL cdhq0) = ((sp_load ((((), w, r, ()), 0, ()), (c, got, (), held, ()), did, ())).bind fun val => selim val (fun val => (sp_load ((((), w, r, ()), sd.other, ()), (val.2.1.1, val.2.1.2.1, (), val.2.1.2.2.2.1, ()), val.2.2.1, ())).bind fun val_1 => selim val_1 (fun val_2 => bif decide (u2.length + [En.mk val.1.1 val_2.1.1].length ≤ 1000000000) then some (Sum.inl ((), (val_2.2.1.1, val_2.2.1.2.1, (), val_2.2.1.2.2.2.1, ()), ((), ()), (sd, ()), val_2.2.2.1, (er, id, ps, (), (), ()), u1, u2 ++ [En.mk val.1.1 val_2.1.1], ())) else none) fun val => some (Sum.inr (((), ()), (val.2.1.1, val.2.1.2.1, (), (), ()), (), (), val.2.2.1, (), (), (), ()))) fun val => some (Sum.inr (((), ()), (val.2.1.1, val.2.1.2.1, (), (), ()), (), (), val.2.2.1, (), (), (), ()))) := by kernel_rfl
theorem endsCi_ok : Sound Tryz.prog gl 96 (endsCi_C (Ifc.spec endsCiI)) := by
  refine cqk (fn := Tryz.f96) (G := [(80, load_C (Ifc.spec loadI))]) (GOk.cons load_g load_ok (GOk.nil)) (by kernel_rfl) (by kernel_rfl) (Lc := []) (nh := []) (noloopN (by kernel_rfl)) ?_
  rintro ⟨⟨⟨_, w, r, _⟩, _, _, _⟩, ⟨⟨c, got, _, held, _⟩, ⟨_, _⟩, ⟨sd, _⟩, did, ⟨er, id, ps, _, _, _⟩, u1, u2, _⟩⟩
  refine (endsCi_raw (Ifc.spec loadI) w r c got held sd did er id ps u1 u2).trans ?_
  show _ = outG (endsCiI.enc ((((), w, r, ()), (), (), ()), ((c, got, (), held, ()), ((), ()), (sd, ()), did, (er, id, ps, (), (), ()), u1, u2, ()))) (endsCiI.stop ((((), w, r, ()), (), (), ()), ((c, got, (), held, ()), ((), ()), (sd, ()), did, (er, id, ps, (), (), ()), u1, u2, ()))) ((endsCiTr w r c got held sd er id ps u1 u2).exec got did)
  unfold endsCiTr
  repeat' (first | refine cond_out (fun _ => ?_) (fun _ => ?_) | (refine bindI rfl rfl (fun _ _ => ?_) (fun _ => rfl); try dsimp only [selim, cond_true, cond_false, Bool.not_true, Bool.not_false, one, none1, mI, loadI]) | rfl)
abbrev eachIL0vs : List Vh := [.clo 96 [.ptr 1 0, .ptr 2 0], .s (.ptr 7 0), .s (.ptr 8 0)]
abbrev eachIL0os : List OSh := [.box [.e (.st .cfg), .e (.sl .int), .own 3, .sln .int], .box [.ptr 4 4], .box [.e (.st .sid)], .arr (.st .acc), .box [.e .int, .e .int, .e (.sl (.st .pr)), .own 5, .own 6], .arr (.st .en), .arr (.st .en), .box [.e (.st .sid)], .box [.ptr 0 0, .e .int, .e .int]]
noncomputable abbrev eachIL0fin : Fin := ((Fin.one 7 Tryz.f95.ntmps (.exit 0) [] [] cdhq0).or (Fin.pan 7 59 (.agg []) cdhq2))
def eachIL0Step (c : Cfg) (got : List Int) (held : List Int) (sd : Sid) (er : Int) (id : Int) (ps : List Pr) (u1 : List En) (v18 : Sid) (v20 : Int) (st : List En × Int) : T ((List En × Int) ⊕ (List En)) :=
 let u2 := st.1
 let v21 := st.2
 bif !v21 == 0 then
 (endsCiTr v20 v21 c got held sd er id ps u1 u2).bind fun x1 =>
 (nextTr v20 v21 v18.link c got held).bind fun x2 =>
 .ret (Sum.inl (x1, x2))
 else
 .ret (Sum.inr u2)
@[reducible] def eachIL0I : Ifc (VhL eachIL0vs × OShL eachIL0os) eachIL0fin.Y where
  α := List En
  tr x := T.loop (eachIL0Step x.2.1.1 x.2.1.2.1 x.2.1.2.2.2.1 x.2.2.2.1.1 x.2.2.2.2.2.1.1 x.2.2.2.2.2.1.2.1 x.2.2.2.2.2.1.2.2.1 x.2.2.2.2.2.2.1 x.2.2.2.2.2.2.2.2.1.1 x.2.2.2.2.2.2.2.2.2.1.2.1) (x.2.1.2.1.length + 10) (x.2.2.2.2.2.2.2.1, x.2.2.2.2.2.2.2.2.2.1.2.2.1)
  got x := x.2.1.2.1
  did x := x.2.2.2.2.1
  enc x a d := Sum.inl (((), ((x.2.1.1, x.2.1.2.1, (), x.2.1.2.2.2.1, ()), ((), ()), (x.2.2.2.1.1, ()), d, (x.2.2.2.2.2.1.1, x.2.2.2.2.2.1.2.1, x.2.2.2.2.2.1.2.2.1, (), (), ()), x.2.2.2.2.2.2.1, a, ())))
  stop x d := Sum.inr ((((), ()), ((x.2.1.1, x.2.1.2.1, (), (), ()), (), (), d, (), (), (), ())))
theorem eachIL0_raw (sp_load : load_T) (sp_next : next_T) (sp_edge : edge_T) (sp_none : none_T) (sp_endsCi : endsCi_T) (c : Cfg) (got : List Int) (held : List Int) (sd : Sid) (did : List Acc) (er : Int) (id : Int) (ps : List Pr) (u1 : List En) (u2 : List En) (v18 : Sid) (v20 : Int) (v21 : Int) : runW 7 Tryz.f95 0 [3, 6, 8] eachIL0vs eachIL0os eachIL0fin [(80, load_C sp_load), (103, next_C sp_next), (82, edge_C sp_edge), (74, none_C sp_none), (96, endsCi_C sp_endsCi)] [] [] (((((), (), ()), (), (), ()), ((c, got, (), held, ()), ((), ()), (sd, ()), did, (er, id, ps, (), (), ()), u1, u2, (v18, ()), ((), v20, v21, ()), ())) : VhL eachIL0vs × OShL eachIL0os) = ((sp_none ((((), v20, v21, ()), ()), (c, got, (), held, ()), did, ())).bind fun val => selim val (fun val => bif !val.1.1 then (sp_endsCi ((((), v20, v21, ()), (), (), ()), (val.2.1.1, val.2.1.2.1, (), val.2.1.2.2.2.1, ()), ((), ()), (sd, ()), val.2.2.1, (er, id, ps, (), (), ()), u1, u2, ())).bind fun val => selim val (fun val => (sp_next ((((), v20, v21, ()), v18.link, ()), (val.2.1.1, val.2.1.2.1, (), val.2.1.2.2.2.1, ()), val.2.2.2.2.1, ())).bind fun val_1 => selim val_1 (fun val_2 => some (Sum.inl ((((), (), ()), (), (), ()), (val_2.2.1.1, val_2.2.1.2.1, (), val_2.2.1.2.2.2.1, ()), ((), ()), (val.2.2.2.1.1, ()), val_2.2.2.1, (val.2.2.2.2.2.1.1, val.2.2.2.2.2.1.2.1, val.2.2.2.2.2.1.2.2.1, (), (), ()), val.2.2.2.2.2.2.1, val.2.2.2.2.2.2.2.1, (v18, ()), ((), val_2.1.1.2.1, val_2.1.1.2.2.1, ()), ()))) fun val => some (Sum.inr (Sum.inr (((), ()), (val.2.1.1, val.2.1.2.1, (), (), ()), (), (), val.2.2.1, (), (), (), ())))) fun val => some (Sum.inr (Sum.inr (((), ()), (val.2.1.1, val.2.1.2.1, (), (), ()), (), (), val.2.2.2.2.1, (), (), (), ()))) else some (Sum.inr (Sum.inl ((), (val.2.1.1, val.2.1.2.1, (), val.2.1.2.2.2.1, ()), ((), ()), (sd, ()), val.2.2.1, (er, id, ps, (), (), ()), u1, u2, ())))) fun val => some (Sum.inr (Sum.inr (((), ()), (val.2.1.1, val.2.1.2.1, (), (), ()), (), (), val.2.2.1, (), (), (), ())))) := by kernel_rfl
theorem eachIL0_ok : LOk Tryz.prog gl 7 (LCon.of Tryz.f95.ntmps [3, 6, 8] eachIL0vs eachIL0os eachIL0fin (Ifc.spec eachIL0I)) (getL (body Tryz.f95) 0) := by
  refine lwk (Lc := []) (nh := []) (G := [(80, load_C (Ifc.spec loadI)), (103, next_C (Ifc.spec nextI)), (82, edge_C (Ifc.spec edgeI)), (74, none_C (Ifc.spec noneI)), (96, endsCi_C (Ifc.spec endsCiI))]) (GOk.cons load_g load_ok (GOk.cons next_g next_ok (GOk.cons edge_g edge_ok (GOk.cons none_g none_ok (GOk.cons endsCi_g endsCi_ok (GOk.nil)))))) (noloopN (by kernel_rfl)) (Fin.or_ok (Fin.one_ok _ _ _ _) (Fin.pan_ok _ _ _)) ?_
  rintro ⟨⟨⟨_, _, _⟩, _, _, _⟩, ⟨⟨c, got, _, held, _⟩, ⟨_, _⟩, ⟨sd, _⟩, did, ⟨er, id, ps, _, _, _⟩, u1, u2, ⟨v18, _⟩, ⟨_, v20, v21, _⟩, _⟩⟩ y hy
  refine ⟨_, loopT_ok (eX := fun (st : List En × Int) (d : List Acc) => (let u2 := st.1; let v21 := st.2; ((((), (), ()), (), (), ()), ((c, got, (), held, ()), ((), ()), (sd, ()), d, (er, id, ps, (), (), ()), u1, u2, (v18, ()), ((), v20, v21, ()), ())) : VhL eachIL0vs × OShL eachIL0os)) (body := eachIL0Step c got held sd er id ps u1 v18 v20) (fun st d => ?_) _ (u2, v21) did y hy⟩
  obtain ⟨u2, v21⟩ := st
  refine (eachIL0_raw (Ifc.spec loadI) (Ifc.spec nextI) (Ifc.spec edgeI) (Ifc.spec noneI) (Ifc.spec endsCiI) c got held sd d er id ps u1 u2 v18 v20 v21).trans ?_
  unfold eachIL0Step
  repeat' (first | refine cond_out (fun _ => ?_) (fun _ => ?_) | (refine (retI (by with_reducible rfl)).trans ?_; try dsimp only [selim, cond_true, cond_false, Bool.not_true, Bool.not_false, one, none1, mI, loadI, nextI, edgeI, noneI, endsCiI]) | (refine bindI rfl rfl (fun _ _ => ?_) (fun _ => rfl); try dsimp only [selim, cond_true, cond_false, Bool.not_true, Bool.not_false, one, none1, mI, loadI, nextI, edgeI, noneI, endsCiI]) | rfl)
def eachITr (w : Int) (r : Int) (s : Sid) (c : Cfg) (got : List Int) (held : List Int) (sd : Sid) (er : Int) (id : Int) (ps : List Pr) (u1 : List En) (u2 : List En) : T (List En) :=
 (loadTr w r s.head c got held).bind fun x0 =>
 (T.loop (eachIL0Step c got held sd er id ps u1 s 2) (got.length + 10) (u2, x0)).bind fun x2 =>
 .ret x2
@[reducible] def eachII : Ifc (VhL [pm, rc, .s (.e (.st .sid)), .clo 96 [.ptr 1 0, .ptr 2 0]] × OShL cdhq0) ((VhL [] × OShL cdhq0) ⊕ (VhL [.agg []] × OShL cdhq2)) where
  α := List En
  tr x := eachITr x.1.2.1.2.1 x.1.2.1.2.2.1 x.1.2.2.1 x.2.1.1 x.2.1.2.1 x.2.1.2.2.2.1 x.2.2.2.1.1 x.2.2.2.2.2.1.1 x.2.2.2.2.2.1.2.1 x.2.2.2.2.2.1.2.2.1 x.2.2.2.2.2.2.1 x.2.2.2.2.2.2.2.1
  got x := x.2.1.2.1
  did x := x.2.2.2.2.1
  enc x a d := Sum.inl (((), ((x.2.1.1, x.2.1.2.1, (), x.2.1.2.2.2.1, ()), ((), ()), (x.2.2.2.1.1, ()), d, (x.2.2.2.2.2.1.1, x.2.2.2.2.2.1.2.1, x.2.2.2.2.2.1.2.2.1, (), (), ()), x.2.2.2.2.2.2.1, a, ())))
  stop x d := Sum.inr ((((), ()), ((x.2.1.1, x.2.1.2.1, (), (), ()), (), (), d, (), (), (), ())))
abbrev eachI_T : Type := VhL [pm, rc, .s (.e (.st .sid)), .clo 96 [.ptr 1 0, .ptr 2 0]] × OShL cdhq0 → Option ((VhL [] × OShL cdhq0) ⊕ (VhL [.agg []] × OShL cdhq2))
noncomputable abbrev eachI_C (sp : eachI_T) : Con := cq [pm, rc, .s (.e (.st .sid)), .clo 96 [.ptr 1 0, .ptr 2 0]] cdhq0 [] cdhq0 cdhq2 sp
theorem eachI_g : Callable Tryz.prog 95 := ⟨Tryz.f95, body Tryz.f95, by kernel_rfl, by kernel_rfl, by kernel_rfl⟩
theorem eachI_raw (sp_load : load_T) (sp_next : next_T) (sp_edge : edge_T) (sp_none : none_T) (sp_endsCi : endsCi_T) (sp_eachIL0 : VhL eachIL0vs × OShL eachIL0os → Option eachIL0fin.Y) (w : Int) (r : Int) (s : Sid) (c : Cfg) (got : List Int) (held : List Int) (sd : Sid) (did : List Acc) (er : Int) (id : Int) (ps : List Pr) (u1 : List En) (u2 : List En) : runQ Tryz.f95 [pm, rc, .s (.e (.st .sid)), .clo 96 [.ptr 1 0, .ptr 2 0]] cdhq0 [] cdhq0 cdhq2 [(80, load_C sp_load), (103, next_C sp_next), (82, edge_C sp_edge), (74, none_C sp_none), (96, endsCi_C sp_endsCi)] [(2, LCon.of Tryz.f95.ntmps [3, 6, 8] eachIL0vs eachIL0os eachIL0fin sp_eachIL0)] [] ((((), ((), w, r, ()), s, ((), (), ()), ()), ((c, got, (), held, ()), ((), ()), (sd, ()), did, (er, id, ps, (), (), ()), u1, u2, ())) : VhL [pm, rc, .s (.e (.st .sid)), .clo 96 [.ptr 1 0, .ptr 2 0]] × OShL cdhq0) = ((sp_load ((((), w, r, ()), s.head, ()), (c, got, (), held, ()), did, ())).bind fun val => selim val (fun val => (sp_edge (((), val.1.1, ()), (val.2.1.1, val.2.1.2.1, (), val.2.1.2.2.2.1, ()), val.2.2.1, ())).bind fun val => selim val (fun val => (sp_eachIL0 ((((), (), ()), (), (), ()), (val.2.1.1, val.2.1.2.1, (), val.2.1.2.2.2.1, ()), ((), ()), (sd, ()), val.2.2.1, (er, id, ps, (), (), ()), u1, u2, (s, ()), ((), val.1.1.2.1, val.1.1.2.2.1, ()), ())).bind fun val => selim val (fun val => some (Sum.inl ((), (val.2.1.1, val.2.1.2.1, (), val.2.1.2.2.2.1, ()), ((), ()), (val.2.2.2.1.1, ()), val.2.2.2.2.1, (val.2.2.2.2.2.1.1, val.2.2.2.2.2.1.2.1, val.2.2.2.2.2.1.2.2.1, (), (), ()), val.2.2.2.2.2.2.1, val.2.2.2.2.2.2.2.1, ()))) fun val => some (Sum.inr (((), ()), (val.2.1.1, val.2.1.2.1, (), (), ()), (), (), val.2.2.2.2.1, (), (), (), ()))) fun val => some (Sum.inr (((), ()), (val.2.1.1, val.2.1.2.1, (), (), ()), (), (), val.2.2.1, (), (), (), ()))) fun val => some (Sum.inr (((), ()), (val.2.1.1, val.2.1.2.1, (), (), ()), (), (), val.2.2.1, (), (), (), ()))) := by kernel_rfl
theorem eachI_ok : Sound Tryz.prog gl 95 (eachI_C (Ifc.spec eachII)) := by
  refine cqk (fn := Tryz.f95) (G := [(80, load_C (Ifc.spec loadI)), (103, next_C (Ifc.spec nextI)), (82, edge_C (Ifc.spec edgeI)), (74, none_C (Ifc.spec noneI)), (96, endsCi_C (Ifc.spec endsCiI))]) (GOk.cons load_g load_ok (GOk.cons next_g next_ok (GOk.cons edge_g edge_ok (GOk.cons none_g none_ok (GOk.cons endsCi_g endsCi_ok (GOk.nil)))))) (by kernel_rfl) (by kernel_rfl) (Lc := [(2, LCon.of Tryz.f95.ntmps [3, 6, 8] eachIL0vs eachIL0os eachIL0fin (Ifc.spec eachIL0I))]) (nh := []) (lcok (bs := [getL (body Tryz.f95) 0]) (by kernel_rfl) ⟨lone_ok (q := (2, LCon.of Tryz.f95.ntmps [3, 6, 8] eachIL0vs eachIL0os eachIL0fin (Ifc.spec eachIL0I))) (by kernel_rfl) eachIL0_ok, trivial⟩) ?_
  rintro ⟨⟨_, ⟨_, w, r, _⟩, s, ⟨_, _, _⟩, _⟩, ⟨⟨c, got, _, held, _⟩, ⟨_, _⟩, ⟨sd, _⟩, did, ⟨er, id, ps, _, _, _⟩, u1, u2, _⟩⟩
  refine (eachI_raw (Ifc.spec loadI) (Ifc.spec nextI) (Ifc.spec edgeI) (Ifc.spec noneI) (Ifc.spec endsCiI) (Ifc.spec eachIL0I) w r s c got held sd did er id ps u1 u2).trans ?_
  show _ = outG (eachII.enc (((), ((), w, r, ()), s, ((), (), ()), ()), ((c, got, (), held, ()), ((), ()), (sd, ()), did, (er, id, ps, (), (), ()), u1, u2, ()))) (eachII.stop (((), ((), w, r, ()), s, ((), (), ()), ()), ((c, got, (), held, ()), ((), ()), (sd, ()), did, (er, id, ps, (), (), ()), u1, u2, ()))) ((eachITr w r s c got held sd er id ps u1 u2).exec got did)
  unfold eachITr
  repeat' (first | (refine (retI (by with_reducible rfl)).trans ?_; try dsimp only [selim, cond_true, cond_false, Bool.not_true, Bool.not_false, one, none1, mI, loadI, nextI, edgeI, noneI, endsCiI, eachIL0I]) | (refine bindI rfl rfl (fun _ _ => ?_) (fun _ => rfl); try dsimp only [selim, cond_true, cond_false, Bool.not_true, Bool.not_false, one, none1, mI, loadI, nextI, edgeI, noneI, endsCiI, eachIL0I]) | rfl)
end Go.Ax.Cd
/- The package code by contracts (printed by wip/tools/con3.py). -/
namespace Go.Ax.Cd
open Go.Proofs
set_option linter.unusedVariables false
set_option maxRecDepth 100000
def endsTr (w : Int) (r : Int) (c : Cfg) (got : List Int) (held : List Int) : T (Res) :=
 (eachOTr w r (Sid.mk (rdE EK.int [1, 2] 0) (rdE EK.int [3, 4] 0) (rdE EK.int [1, 2] 0) (rdE EK.int [2, 1] 0)) c got held (Sid.mk (rdE EK.int [1, 2] 0) (rdE EK.int [3, 4] 0) (rdE EK.int [1, 2] 0) (rdE EK.int [2, 1] 0)) 0 0 [] [] []).bind fun x0 =>
 (T.gret (sortG x0.length) ()).bind fun _ =>
 (eachITr w r (Sid.mk (rdE EK.int [1, 2] (w64 (0 + 1))) (rdE EK.int [3, 4] (w64 (0 + 1))) (rdE EK.int [1, 2] (w64 (0 + 1))) (rdE EK.int [2, 1] (w64 (0 + 1)))) c got held (Sid.mk (rdE EK.int [1, 2] (w64 (0 + 1))) (rdE EK.int [3, 4] (w64 (0 + 1))) (rdE EK.int [1, 2] (w64 (0 + 1))) (rdE EK.int [2, 1] (w64 (0 + 1)))) 0 0 [] (sortEn x0) []).bind fun x2 =>
 (T.gret (sortG x2.length) ()).bind fun _ =>
 .ret (Res.mk 0 0 [] (sortEn x0) (sortEn x2))
@[reducible] def endsI : Ifc (VhL [pm, rc] × OShL mach) ((VhL [.s (.e (.st .res))] × OShL mach) ⊕ (VhL [.agg []] × OShL machP)) where
  α := Res
  tr x := endsTr x.1.2.1.2.1 x.1.2.1.2.2.1 x.2.1.1 x.2.1.2.1 x.2.1.2.2.2.1
  got x := x.2.1.2.1
  did x := x.2.2.1
  enc x a d := Sum.inl (((a, ()), ((x.2.1.1, x.2.1.2.1, (), x.2.1.2.2.2.1, ()), d, ())))
  stop x d := Sum.inr ((((), ()), ((x.2.1.1, x.2.1.2.1, (), (), ()), d, ())))
abbrev ends_T : Type := VhL [pm, rc] × OShL mach → Option ((VhL [.s (.e (.st .res))] × OShL mach) ⊕ (VhL [.agg []] × OShL machP))
noncomputable abbrev ends_C (sp : ends_T) : Con := cq [pm, rc] mach [.s (.e (.st .res))] mach machP sp
theorem ends_g : Callable Tryz.prog 48 := ⟨Tryz.f48, body Tryz.f48, by kernel_rfl, by kernel_rfl, by kernel_rfl⟩
theorem ends_raw (sp_eachO : eachO_T) (sp_eachI : eachI_T) (sp_stabEn : stabEn_T) (w : Int) (r : Int) (c : Cfg) (got : List Int) (held : List Int) (did : List Acc) : runQ Tryz.f48 [pm, rc] mach [.s (.e (.st .res))] mach machP [(95, eachO_C sp_eachO), (95, eachI_C sp_eachI), (97, stabEn_C sp_stabEn)] [] [(0, [(4, some 3, (.st .en)), (4, some 4, (.st .en))])] ((((), ((), w, r, ()), ()), ((c, got, (), held, ()), did, ())) : VhL [pm, rc] × OShL mach) = ((sp_eachO (((), ((), w, r, ()), Sid.mk (rdE EK.int [1, 2] 0) (rdE EK.int [3, 4] 0) (rdE EK.int [1, 2] 0) (rdE EK.int [2, 1] 0), ((), (), ()), ()), (c, got, (), held, ()), ((), ()), (Sid.mk (rdE EK.int [1, 2] 0) (rdE EK.int [3, 4] 0) (rdE EK.int [1, 2] 0) (rdE EK.int [2, 1] 0), ()), did, (0, 0, [], (), (), ()), [], [], ())).bind fun val => selim val (fun val => (sp_stabEn (((), (), ()), val.2.2.2.2.2.2.1, ())).bind fun val_1 => (sp_eachI (((), ((), w, r, ()), Sid.mk (rdE EK.int [1, 2] (w64 (0 + 1))) (rdE EK.int [3, 4] (w64 (0 + 1))) (rdE EK.int [1, 2] (w64 (0 + 1))) (rdE EK.int [2, 1] (w64 (0 + 1))), ((), (), ()), ()), (val.2.1.1, val.2.1.2.1, (), val.2.1.2.2.2.1, ()), ((), ()), (Sid.mk (rdE EK.int [1, 2] (w64 (0 + 1))) (rdE EK.int [3, 4] (w64 (0 + 1))) (rdE EK.int [1, 2] (w64 (0 + 1))) (rdE EK.int [2, 1] (w64 (0 + 1))), ()), val.2.2.2.2.1, (val.2.2.2.2.2.1.1, val.2.2.2.2.2.1.2.1, val.2.2.2.2.2.1.2.2.1, (), (), ()), val_1.2.1, val.2.2.2.2.2.2.2.1, ())).bind fun val => selim val (fun val => (sp_stabEn (((), (), ()), val.2.2.2.2.2.2.2.1, ())).bind fun val_2 => some (Sum.inl ((Res.mk val.2.2.2.2.2.1.1 val.2.2.2.2.2.1.2.1 val.2.2.2.2.2.1.2.2.1 val.2.2.2.2.2.2.1 val_2.2.1, ()), (val.2.1.1, val.2.1.2.1, (), val.2.1.2.2.2.1, ()), val.2.2.2.2.1, ()))) fun val => some (Sum.inr (((), ()), (val.2.1.1, val.2.1.2.1, (), (), ()), val.2.2.2.2.1, ()))) fun val => some (Sum.inr (((), ()), (val.2.1.1, val.2.1.2.1, (), (), ()), val.2.2.2.2.1, ()))) := by kernel_rfl
theorem ends_ok : Sound Tryz.prog gl 48 (ends_C (Ifc.spec endsI)) := by
  refine cqk (fn := Tryz.f48) (G := [(95, eachO_C (Ifc.spec eachOI)), (95, eachI_C (Ifc.spec eachII)), (97, stabEn_C (Ifc.spec stabEnI))]) (GOk.cons eachO_g eachO_ok (GOk.cons eachI_g eachI_ok (GOk.cons stabEn_g stabEn_ok (GOk.nil)))) (by kernel_rfl) (by kernel_rfl) (Lc := []) (nh := [(0, [(4, some 3, (.st .en)), (4, some 4, (.st .en))])]) (lcok (bs := [getL (body Tryz.f48) 0]) (by kernel_rfl) ⟨lnone_ok (by kernel_rfl), trivial⟩) ?_
  rintro ⟨⟨_, ⟨_, w, r, _⟩, _⟩, ⟨⟨c, got, _, held, _⟩, did, _⟩⟩
  refine (ends_raw (Ifc.spec eachOI) (Ifc.spec eachII) (Ifc.spec stabEnI) w r c got held did).trans ?_
  show _ = outG (endsI.enc (((), ((), w, r, ()), ()), ((c, got, (), held, ()), did, ()))) (endsI.stop (((), ((), w, r, ()), ()), ((c, got, (), held, ()), did, ()))) ((endsTr w r c got held).exec got did)
  unfold endsTr
  repeat' (first | (refine bindG (by with_reducible rfl) ?_; try dsimp only [selim, cond_true, cond_false, Bool.not_true, Bool.not_false, one, none1, mI, eachOI, eachII, stabEnI]) | (refine bindI rfl rfl (fun _ _ => ?_) (fun _ => rfl); try dsimp only [selim, cond_true, cond_false, Bool.not_true, Bool.not_false, one, none1, mI, eachOI, eachII, stabEnI]) | rfl)
end Go.Ax.Cd
