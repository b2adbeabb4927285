/- The package code by contracts (printed by wip/tools/con3.py). -/
import Derived.Test.YteoeolfcpmalfaaGreatDoorQ14
import Derived.Test.YteoeolfcpmalfaaGreatDoorQ25
import Derived.Test.YteoeolfcpmalfaaGreatDoorQ26
import Derived.Test.YteoeolfcpmalfaaGreatDoorQ27
import Derived.Test.YteoeolfcpmalfaaGreatDoorQ28
namespace Go.Ax.Cd
open Go.Proofs
set_option linter.unusedVariables false
set_option maxRecDepth 100000
abbrev cdiq2 : List OSh := [.box [.e (.st .cfg), .e (.sl .int), .own 3, .sln .int], .box [.e .int], .box [.ptr 0 0], .arr (.st .acc), .box [.ptr 0 0, .e .int, .e .int]]
abbrev cdiq1 : List OSh := [.box [.e (.st .cfg), .e (.sl .int), .own 3, .any], .any, .any, .arr (.st .acc)]
abbrev cdiq0 : List OSh := [.box [.e (.st .cfg), .e (.sl .int), .own 3, .sln .int], .box [.e .int], .box [.ptr 0 0], .arr (.st .acc)]
def goneC2Tr (w : Int) (r : Int) (c : Cfg) (got : List Int) (held : List Int) : T (Int × Int × Int) :=
 (loadTr w r 0 c got held).bind fun x0 =>
 (loadTr w r (rdE EK.int [2, 1] 0) c got held).bind fun x1 =>
 (nextTr w r (rdE EK.int [3, 4] 0) c got held).bind fun x2 =>
 .ret (x0, x1, x2)
@[reducible] def goneC2I : Ifc (VhL [rc] × OShL mach) ((VhL [vi, vi, rc] × OShL mach) ⊕ (VhL [.agg []] × OShL machP)) where
  α := Int × Int × Int
  tr x := goneC2Tr x.1.1.2.1 x.1.1.2.2.1 x.2.1.1 x.2.1.2.1 x.2.1.2.2.2.1
  got x := x.2.1.2.1
  did x := x.2.2.1
  enc x a d := Sum.inl (((a.1, a.2.1, ((), x.1.1.2.1, a.2.2, ()), ()), ((x.2.1.1, x.2.1.2.1, (), x.2.1.2.2.2.1, ()), d, ())))
  stop x d := Sum.inr ((((), ()), ((x.2.1.1, x.2.1.2.1, (), (), ()), d, ())))
abbrev goneC2_T : Type := VhL [rc] × OShL mach → Option ((VhL [vi, vi, rc] × OShL mach) ⊕ (VhL [.agg []] × OShL machP))
noncomputable abbrev goneC2_C (sp : goneC2_T) : Con := cq [rc] mach [vi, vi, rc] mach machP sp
theorem goneC2_g : Callable Tryz.prog 102 := ⟨Tryz.f102, body Tryz.f102, by kernel_rfl, by kernel_rfl, by kernel_rfl⟩
theorem goneC2_raw (sp_load : load_T) (sp_next : next_T) (w : Int) (r : Int) (c : Cfg) (got : List Int) (held : List Int) (did : List Acc) : runQ Tryz.f102 [rc] mach [vi, vi, rc] mach machP [(80, load_C sp_load), (103, next_C sp_next)] [] [] (((((), w, r, ()), ()), ((c, got, (), held, ()), did, ())) : VhL [rc] × OShL mach) = ((sp_load ((((), w, r, ()), 0, ()), (c, got, (), held, ()), did, ())).bind fun val => selim val (fun val => (sp_load ((((), w, r, ()), rdE EK.int [2, 1] 0, ()), (val.2.1.1, val.2.1.2.1, (), val.2.1.2.2.2.1, ()), val.2.2.1, ())).bind fun val_1 => selim val_1 (fun val_2 => (sp_next ((((), w, r, ()), rdE EK.int [3, 4] 0, ()), (val_2.2.1.1, val_2.2.1.2.1, (), val_2.2.1.2.2.2.1, ()), val_2.2.2.1, ())).bind fun val_3 => selim val_3 (fun val_4 => some (Sum.inl ((val.1.1, val_2.1.1, ((), val_4.1.1.2.1, val_4.1.1.2.2.1, ()), ()), (val_4.2.1.1, val_4.2.1.2.1, (), val_4.2.1.2.2.2.1, ()), val_4.2.2.1, ()))) fun val => some (Sum.inr (((), ()), (val.2.1.1, val.2.1.2.1, (), (), ()), val.2.2.1, ()))) fun val => some (Sum.inr (((), ()), (val.2.1.1, val.2.1.2.1, (), (), ()), val.2.2.1, ()))) fun val => some (Sum.inr (((), ()), (val.2.1.1, val.2.1.2.1, (), (), ()), val.2.2.1, ()))) := by kernel_rfl
theorem goneC2_ok : Sound Tryz.prog gl 102 (goneC2_C (Ifc.spec goneC2I)) := by
  refine cqk (fn := Tryz.f102) (G := [(80, load_C (Ifc.spec loadI)), (103, next_C (Ifc.spec nextI))]) (GOk.cons load_g load_ok (GOk.cons next_g next_ok (GOk.nil))) (by kernel_rfl) (by kernel_rfl) (Lc := []) (nh := []) (noloopN (by kernel_rfl)) ?_
  rintro ⟨⟨⟨_, w, r, _⟩, _⟩, ⟨⟨c, got, _, held, _⟩, did, _⟩⟩
  refine (goneC2_raw (Ifc.spec loadI) (Ifc.spec nextI) w r c got held did).trans ?_
  show _ = outG (goneC2I.enc ((((), w, r, ()), ()), ((c, got, (), held, ()), did, ()))) (goneC2I.stop ((((), w, r, ()), ()), ((c, got, (), held, ()), did, ()))) ((goneC2Tr w r c got held).exec got did)
  unfold goneC2Tr
  repeat' (first | (refine bindI rfl rfl (fun _ _ => ?_) (fun _ => rfl); try dsimp only [selim, cond_true, cond_false, Bool.not_true, Bool.not_false, one, none1, mI, loadI, nextI]) | rfl)
def goneC3Tr (i : Int) (other : Int) (w : Int) (r : Int) (c : Cfg) (got : List Int) (held : List Int) (n : Int) : T (Unit) :=
 bif other != n then
 (unlinkTr (Sid.mk (rdE EK.int [1, 2] 1) (rdE EK.int [3, 4] 1) (rdE EK.int [1, 2] 1) (rdE EK.int [2, 1] 1)) other w r c got held).bind fun _ =>
 (setTr (w64 (w64 (c.ids + 1) + i)) 0 c got held).bind fun _ =>
 (retireTr w r c got held).bind fun _ =>
 .ret ()
 else
 (setTr (w64 (w64 (c.ids + 1) + i)) 0 c got held).bind fun _ =>
 (retireTr w r c got held).bind fun _ =>
 .ret ()
@[reducible] def goneC3I : Ifc (VhL [vi, vi, rc, .s (.ptr 1 0), .s (.ptr 2 0)] × OShL cdiq0) ((VhL [] × OShL cdiq0) ⊕ (VhL [.agg []] × OShL cdiq1)) where
  α := Unit
  tr x := goneC3Tr x.1.1 x.1.2.1 x.1.2.2.1.2.1 x.1.2.2.1.2.2.1 x.2.1.1 x.2.1.2.1 x.2.1.2.2.2.1 x.2.2.1.1
  got x := x.2.1.2.1
  did x := x.2.2.2.2.1
  enc x a d := Sum.inl (((), ((x.2.1.1, x.2.1.2.1, (), x.2.1.2.2.2.1, ()), (x.2.2.1.1, ()), ((), ()), d, ())))
  stop x d := Sum.inr ((((), ()), ((x.2.1.1, x.2.1.2.1, (), (), ()), (), (), d, ())))
abbrev goneC3_T : Type := VhL [vi, vi, rc, .s (.ptr 1 0), .s (.ptr 2 0)] × OShL cdiq0 → Option ((VhL [] × OShL cdiq0) ⊕ (VhL [.agg []] × OShL cdiq1))
noncomputable abbrev goneC3_C (sp : goneC3_T) : Con := cq [vi, vi, rc, .s (.ptr 1 0), .s (.ptr 2 0)] cdiq0 [] cdiq0 cdiq1 sp
theorem goneC3_g : Callable Tryz.prog 104 := ⟨Tryz.f104, body Tryz.f104, by kernel_rfl, by kernel_rfl, by kernel_rfl⟩
theorem goneC3_raw (sp_retire : retire_T) (sp_set : set_T) (sp_edgeAt : edgeAt_T) (sp_unlink : unlink_T) (i : Int) (other : Int) (w : Int) (r : Int) (c : Cfg) (got : List Int) (held : List Int) (n : Int) (did : List Acc) : runQ Tryz.f104 [vi, vi, rc, .s (.ptr 1 0), .s (.ptr 2 0)] cdiq0 [] cdiq0 cdiq1 [(85, retire_C sp_retire), (76, set_C sp_set), (81, edgeAt_C sp_edgeAt), (84, unlink_C sp_unlink)] [] [] (((i, other, ((), w, r, ()), (), (), ()), ((c, got, (), held, ()), (n, ()), ((), ()), did, ())) : VhL [vi, vi, rc, .s (.ptr 1 0), .s (.ptr 2 0)] × OShL cdiq0) = (bif other != n then (sp_unlink (((), Sid.mk (rdE EK.int [1, 2] 1) (rdE EK.int [3, 4] 1) (rdE EK.int [1, 2] 1) (rdE EK.int [2, 1] 1), other, ((), w, r, ()), ()), (c, got, (), held, ()), did, ())).bind fun val => selim val (fun val => (sp_edgeAt (((), i, ()), (val.2.1.1, val.2.1.2.1, (), val.2.1.2.2.2.1, ()), val.2.2.1, ())).bind fun val => selim val (fun val => (sp_set (((), val.1.1, 0, ()), (val.2.1.1, val.2.1.2.1, (), val.2.1.2.2.2.1, ()), val.2.2.1, ())).bind fun val => selim val (fun val => (sp_retire ((((), w, r, ()), ()), (val.2.1.1, val.2.1.2.1, (), val.2.1.2.2.2.1, ()), val.2.2.1, ())).bind fun val => selim val (fun val => some (Sum.inl ((), (val.2.1.1, val.2.1.2.1, (), val.2.1.2.2.2.1, ()), (n, ()), ((), ()), val.2.2.1, ()))) fun val => some (Sum.inr (((), ()), (val.2.1.1, val.2.1.2.1, (), (), ()), (), (), val.2.2.1, ()))) fun val => some (Sum.inr (((), ()), (val.2.1.1, val.2.1.2.1, (), (), ()), (), (), val.2.2.1, ()))) fun val => some (Sum.inr (((), ()), (val.2.1.1, val.2.1.2.1, (), (), ()), (), (), val.2.2.1, ()))) fun val => some (Sum.inr (((), ()), (val.2.1.1, val.2.1.2.1, (), (), ()), (), (), val.2.2.1, ()))
else
  (sp_edgeAt (((), i, ()), (c, got, (), held, ()), did, ())).bind fun val =>
    selim val
      (fun val =>
        (sp_set (((), val.1.1, 0, ()), (val.2.1.1, val.2.1.2.1, (), val.2.1.2.2.2.1, ()), val.2.2.1, ())).bind fun val =>
          selim val
            (fun val =>
              (sp_retire ((((), w, r, ()), ()), (val.2.1.1, val.2.1.2.1, (), val.2.1.2.2.2.1, ()), val.2.2.1, ())).bind fun val =>
                selim val (fun val => some (Sum.inl ((), (val.2.1.1, val.2.1.2.1, (), val.2.1.2.2.2.1, ()), (n, ()), ((), ()), val.2.2.1, ()))) fun val =>
                  some (Sum.inr (((), ()), (val.2.1.1, val.2.1.2.1, (), (), ()), (), (), val.2.2.1, ())))
            fun val => some (Sum.inr (((), ()), (val.2.1.1, val.2.1.2.1, (), (), ()), (), (), val.2.2.1, ())))
      fun val => some (Sum.inr (((), ()), (val.2.1.1, val.2.1.2.1, (), (), ()), (), (), val.2.2.1, ()))) := by kernel_rfl
theorem goneC3_ok : Sound Tryz.prog gl 104 (goneC3_C (Ifc.spec goneC3I)) := by
  refine cqk (fn := Tryz.f104) (G := [(85, retire_C (Ifc.spec retireI)), (76, set_C (Ifc.spec setI)), (81, edgeAt_C (Ifc.spec edgeAtI)), (84, unlink_C (Ifc.spec unlinkI))]) (GOk.cons retire_g retire_ok (GOk.cons set_g set_ok (GOk.cons edgeAt_g edgeAt_ok (GOk.cons unlink_g unlink_ok (GOk.nil))))) (by kernel_rfl) (by kernel_rfl) (Lc := []) (nh := []) (noloopN (by kernel_rfl)) ?_
  rintro ⟨⟨i, other, ⟨_, w, r, _⟩, _, _, _⟩, ⟨⟨c, got, _, held, _⟩, ⟨n, _⟩, ⟨_, _⟩, did, _⟩⟩
  refine (goneC3_raw (Ifc.spec retireI) (Ifc.spec setI) (Ifc.spec edgeAtI) (Ifc.spec unlinkI) i other w r c got held n did).trans ?_
  show _ = outG (goneC3I.enc ((i, other, ((), w, r, ()), (), (), ()), ((c, got, (), held, ()), (n, ()), ((), ()), did, ()))) (goneC3I.stop ((i, other, ((), w, r, ()), (), (), ()), ((c, got, (), held, ()), (n, ()), ((), ()), did, ()))) ((goneC3Tr i other w r c got held n).exec got did)
  unfold goneC3Tr
  repeat' (first | refine cond_out (fun _ => ?_) (fun _ => ?_) | (refine (retI (by with_reducible rfl)).trans ?_; try dsimp only [selim, cond_true, cond_false, Bool.not_true, Bool.not_false, one, none1, mI, retireI, setI, edgeAtI, unlinkI]) | (refine bindI rfl rfl (fun _ _ => ?_) (fun _ => rfl); try dsimp only [selim, cond_true, cond_false, Bool.not_true, Bool.not_false, one, none1, mI, retireI, setI, edgeAtI, unlinkI]) | rfl)
abbrev gone1L0vs : List Vh := [.clo 102 [], .clo 104 [.ptr 1 0, .ptr 2 0], .s (.ptr 4 0)]
abbrev gone1L0os : List OSh := cdiq2
noncomputable abbrev gone1L0fin : Fin := ((Fin.one 4 Tryz.f101.ntmps (.exit 0) [] [] cdiq0).or (Fin.pan 4 59 (.agg []) cdiq1))
def gone1L0Step (c : Cfg) (got : List Int) (held : List Int) (n : Int) (v11 : Int) (st : Int) : T ((Int) ⊕ (Unit)) :=
 let v12 := st
 bif !v12 == 0 then
 (goneC2Tr v11 v12 c got held).bind fun x1 =>
 (goneC3Tr x1.1 x1.2.1 v11 v12 c got held n).bind fun _ =>
 .ret (Sum.inl x1.2.2)
 else
 .ret (Sum.inr ())
@[reducible] def gone1L0I : Ifc (VhL gone1L0vs × OShL gone1L0os) gone1L0fin.Y where
  α := Unit
  tr x := T.loop (gone1L0Step x.2.1.1 x.2.1.2.1 x.2.1.2.2.2.1 x.2.2.1.1 x.2.2.2.2.2.1.2.1) (x.2.1.2.1.length + 10) x.2.2.2.2.2.1.2.2.1
  got x := x.2.1.2.1
  did x := x.2.2.2.2.1
  enc x a d := Sum.inl (((), ((x.2.1.1, x.2.1.2.1, (), x.2.1.2.2.2.1, ()), (x.2.2.1.1, ()), ((), ()), d, ())))
  stop x d := Sum.inr ((((), ()), ((x.2.1.1, x.2.1.2.1, (), (), ()), (), (), d, ())))
theorem gone1L0_raw (sp_load : load_T) (sp_edge : edge_T) (sp_none : none_T) (sp_goneC2 : goneC2_T) (sp_goneC3 : goneC3_T) (c : Cfg) (got : List Int) (held : List Int) (n : Int) (did : List Acc) (v11 : Int) (v12 : Int) : runW 4 Tryz.f101 0 [3, 4, 10] gone1L0vs gone1L0os gone1L0fin [(80, load_C sp_load), (82, edge_C sp_edge), (74, none_C sp_none), (102, goneC2_C sp_goneC2), (104, goneC3_C sp_goneC3)] [] [] ((((), ((), (), ()), (), ()), ((c, got, (), held, ()), (n, ()), ((), ()), did, ((), v11, v12, ()), ())) : VhL gone1L0vs × OShL gone1L0os) = ((sp_none ((((), v11, v12, ()), ()), (c, got, (), held, ()), did, ())).bind fun val => selim val (fun val => bif !val.1.1 then (sp_goneC2 ((((), v11, v12, ()), ()), (val.2.1.1, val.2.1.2.1, (), val.2.1.2.2.2.1, ()), val.2.2.1, ())).bind fun val => selim val (fun val => (sp_goneC3 ((val.1.1, val.1.2.1, ((), v11, v12, ()), (), (), ()), (val.2.1.1, val.2.1.2.1, (), val.2.1.2.2.2.1, ()), (n, ()), ((), ()), val.2.2.1, ())).bind fun val_1 => selim val_1 (fun val_2 => some (Sum.inl (((), ((), (), ()), (), ()), (val_2.2.1.1, val_2.2.1.2.1, (), val_2.2.1.2.2.2.1, ()), (val_2.2.2.1.1, ()), ((), ()), val_2.2.2.2.2.1, ((), val.1.2.2.1.2.1, val.1.2.2.1.2.2.1, ()), ()))) fun val => some (Sum.inr (Sum.inr (((), ()), (val.2.1.1, val.2.1.2.1, (), (), ()), (), (), val.2.2.2.2.1, ())))) fun val => some (Sum.inr (Sum.inr (((), ()), (val.2.1.1, val.2.1.2.1, (), (), ()), (), (), val.2.2.1, ()))) else some (Sum.inr (Sum.inl ((), (val.2.1.1, val.2.1.2.1, (), val.2.1.2.2.2.1, ()), (n, ()), ((), ()), val.2.2.1, ())))) fun val => some (Sum.inr (Sum.inr (((), ()), (val.2.1.1, val.2.1.2.1, (), (), ()), (), (), val.2.2.1, ())))) := by kernel_rfl
theorem gone1L0_ok : LOk Tryz.prog gl 4 (LCon.of Tryz.f101.ntmps [3, 4, 10] gone1L0vs gone1L0os gone1L0fin (Ifc.spec gone1L0I)) (getL (body Tryz.f101) 0) := by
  refine lwk (Lc := []) (nh := []) (G := [(80, load_C (Ifc.spec loadI)), (82, edge_C (Ifc.spec edgeI)), (74, none_C (Ifc.spec noneI)), (102, goneC2_C (Ifc.spec goneC2I)), (104, goneC3_C (Ifc.spec goneC3I))]) (GOk.cons load_g load_ok (GOk.cons edge_g edge_ok (GOk.cons none_g none_ok (GOk.cons goneC2_g goneC2_ok (GOk.cons goneC3_g goneC3_ok (GOk.nil)))))) (noloopN (by kernel_rfl)) (Fin.or_ok (Fin.one_ok _ _ _ _) (Fin.pan_ok _ _ _)) ?_
  rintro ⟨⟨_, ⟨_, _, _⟩, _, _⟩, ⟨⟨c, got, _, held, _⟩, ⟨n, _⟩, ⟨_, _⟩, did, ⟨_, v11, v12, _⟩, _⟩⟩ y hy
  refine ⟨_, loopT_ok (eX := fun (st : Int) (d : List Acc) => (let v12 := st; (((), ((), (), ()), (), ()), ((c, got, (), held, ()), (n, ()), ((), ()), d, ((), v11, v12, ()), ())) : VhL gone1L0vs × OShL gone1L0os)) (body := gone1L0Step c got held n v11) (fun st d => ?_) _ v12 did y hy⟩
  revert st
  intro v12
  refine (gone1L0_raw (Ifc.spec loadI) (Ifc.spec edgeI) (Ifc.spec noneI) (Ifc.spec goneC2I) (Ifc.spec goneC3I) c got held n d v11 v12).trans ?_
  unfold gone1L0Step
  repeat' (first | refine cond_out (fun _ => ?_) (fun _ => ?_) | (refine (retI (by with_reducible rfl)).trans ?_; try dsimp only [selim, cond_true, cond_false, Bool.not_true, Bool.not_false, one, none1, mI, loadI, edgeI, noneI, goneC2I, goneC3I]) | (refine bindI rfl rfl (fun _ _ => ?_) (fun _ => rfl); try dsimp only [selim, cond_true, cond_false, Bool.not_true, Bool.not_false, one, none1, mI, loadI, edgeI, noneI, goneC2I, goneC3I]) | rfl)
def gone1Tr (w : Int) (r : Int) (s : Sid) (c : Cfg) (got : List Int) (held : List Int) (n : Int) : T (Unit) :=
 (loadTr w r s.head c got held).bind fun x0 =>
 (T.loop (gone1L0Step c got held n 2) (got.length + 10) x0).bind fun _ =>
 .ret ()
@[reducible] def gone1I : Ifc (VhL [pm, rc, .s (.e (.st .sid)), .clo 102 [], .clo 104 [.ptr 1 0, .ptr 2 0]] × OShL cdiq0) ((VhL [] × OShL cdiq0) ⊕ (VhL [.agg []] × OShL cdiq1)) where
  α := Unit
  tr x := gone1Tr x.1.2.1.2.1 x.1.2.1.2.2.1 x.1.2.2.1 x.2.1.1 x.2.1.2.1 x.2.1.2.2.2.1 x.2.2.1.1
  got x := x.2.1.2.1
  did x := x.2.2.2.2.1
  enc x a d := Sum.inl (((), ((x.2.1.1, x.2.1.2.1, (), x.2.1.2.2.2.1, ()), (x.2.2.1.1, ()), ((), ()), d, ())))
  stop x d := Sum.inr ((((), ()), ((x.2.1.1, x.2.1.2.1, (), (), ()), (), (), d, ())))
abbrev gone1_T : Type := VhL [pm, rc, .s (.e (.st .sid)), .clo 102 [], .clo 104 [.ptr 1 0, .ptr 2 0]] × OShL cdiq0 → Option ((VhL [] × OShL cdiq0) ⊕ (VhL [.agg []] × OShL cdiq1))
noncomputable abbrev gone1_C (sp : gone1_T) : Con := cq [pm, rc, .s (.e (.st .sid)), .clo 102 [], .clo 104 [.ptr 1 0, .ptr 2 0]] cdiq0 [] cdiq0 cdiq1 sp
theorem gone1_g : Callable Tryz.prog 101 := ⟨Tryz.f101, body Tryz.f101, by kernel_rfl, by kernel_rfl, by kernel_rfl⟩
theorem gone1_raw (sp_load : load_T) (sp_edge : edge_T) (sp_none : none_T) (sp_goneC2 : goneC2_T) (sp_goneC3 : goneC3_T) (sp_gone1L0 : VhL gone1L0vs × OShL gone1L0os → Option gone1L0fin.Y) (w : Int) (r : Int) (s : Sid) (c : Cfg) (got : List Int) (held : List Int) (n : Int) (did : List Acc) : runQ Tryz.f101 [pm, rc, .s (.e (.st .sid)), .clo 102 [], .clo 104 [.ptr 1 0, .ptr 2 0]] cdiq0 [] cdiq0 cdiq1 [(80, load_C sp_load), (82, edge_C sp_edge), (74, none_C sp_none), (102, goneC2_C sp_goneC2), (104, goneC3_C sp_goneC3)] [(2, LCon.of Tryz.f101.ntmps [3, 4, 10] gone1L0vs gone1L0os gone1L0fin sp_gone1L0)] [] ((((), ((), w, r, ()), s, (), ((), (), ()), ()), ((c, got, (), held, ()), (n, ()), ((), ()), did, ())) : VhL [pm, rc, .s (.e (.st .sid)), .clo 102 [], .clo 104 [.ptr 1 0, .ptr 2 0]] × OShL cdiq0) = ((sp_load ((((), w, r, ()), s.head, ()), (c, got, (), held, ()), did, ())).bind fun val => selim val (fun val => (sp_edge (((), val.1.1, ()), (val.2.1.1, val.2.1.2.1, (), val.2.1.2.2.2.1, ()), val.2.2.1, ())).bind fun val => selim val (fun val => (sp_gone1L0 (((), ((), (), ()), (), ()), (val.2.1.1, val.2.1.2.1, (), val.2.1.2.2.2.1, ()), (n, ()), ((), ()), val.2.2.1, ((), val.1.1.2.1, val.1.1.2.2.1, ()), ())).bind fun val => selim val (fun val => some (Sum.inl ((), (val.2.1.1, val.2.1.2.1, (), val.2.1.2.2.2.1, ()), (val.2.2.1.1, ()), ((), ()), val.2.2.2.2.1, ()))) fun val => some (Sum.inr (((), ()), (val.2.1.1, val.2.1.2.1, (), (), ()), (), (), val.2.2.2.2.1, ()))) fun val => some (Sum.inr (((), ()), (val.2.1.1, val.2.1.2.1, (), (), ()), (), (), val.2.2.1, ()))) fun val => some (Sum.inr (((), ()), (val.2.1.1, val.2.1.2.1, (), (), ()), (), (), val.2.2.1, ()))) := by kernel_rfl
theorem gone1_ok : Sound Tryz.prog gl 101 (gone1_C (Ifc.spec gone1I)) := by
  refine cqk (fn := Tryz.f101) (G := [(80, load_C (Ifc.spec loadI)), (82, edge_C (Ifc.spec edgeI)), (74, none_C (Ifc.spec noneI)), (102, goneC2_C (Ifc.spec goneC2I)), (104, goneC3_C (Ifc.spec goneC3I))]) (GOk.cons load_g load_ok (GOk.cons edge_g edge_ok (GOk.cons none_g none_ok (GOk.cons goneC2_g goneC2_ok (GOk.cons goneC3_g goneC3_ok (GOk.nil)))))) (by kernel_rfl) (by kernel_rfl) (Lc := [(2, LCon.of Tryz.f101.ntmps [3, 4, 10] gone1L0vs gone1L0os gone1L0fin (Ifc.spec gone1L0I))]) (nh := []) (lcok (bs := [getL (body Tryz.f101) 0]) (by kernel_rfl) ⟨lone_ok (q := (2, LCon.of Tryz.f101.ntmps [3, 4, 10] gone1L0vs gone1L0os gone1L0fin (Ifc.spec gone1L0I))) (by kernel_rfl) gone1L0_ok, trivial⟩) ?_
  rintro ⟨⟨_, ⟨_, w, r, _⟩, s, _, ⟨_, _, _⟩, _⟩, ⟨⟨c, got, _, held, _⟩, ⟨n, _⟩, ⟨_, _⟩, did, _⟩⟩
  refine (gone1_raw (Ifc.spec loadI) (Ifc.spec edgeI) (Ifc.spec noneI) (Ifc.spec goneC2I) (Ifc.spec goneC3I) (Ifc.spec gone1L0I) w r s c got held n did).trans ?_
  show _ = outG (gone1I.enc (((), ((), w, r, ()), s, (), ((), (), ()), ()), ((c, got, (), held, ()), (n, ()), ((), ()), did, ()))) (gone1I.stop (((), ((), w, r, ()), s, (), ((), (), ()), ()), ((c, got, (), held, ()), (n, ()), ((), ()), did, ()))) ((gone1Tr w r s c got held n).exec got did)
  unfold gone1Tr
  repeat' (first | (refine (retI (by with_reducible rfl)).trans ?_; try dsimp only [selim, cond_true, cond_false, Bool.not_true, Bool.not_false, one, none1, mI, loadI, edgeI, noneI, goneC2I, goneC3I, gone1L0I]) | (refine bindI rfl rfl (fun _ _ => ?_) (fun _ => rfl); try dsimp only [selim, cond_true, cond_false, Bool.not_true, Bool.not_false, one, none1, mI, loadI, edgeI, noneI, goneC2I, goneC3I, gone1L0I]) | rfl)
def goneC4Tr (w : Int) (r : Int) (c : Cfg) (got : List Int) (held : List Int) : T (Int × Int) :=
 (loadTr w r (rdE EK.int [2, 1] 1) c got held).bind fun x0 =>
 (nextTr w r (rdE EK.int [3, 4] 1) c got held).bind fun x1 =>
 .ret (x0, x1)
@[reducible] def goneC4I : Ifc (VhL [rc] × OShL mach) ((VhL [vi, vi, rc] × OShL mach) ⊕ (VhL [.agg []] × OShL machP)) where
  α := Int × Int
  tr x := goneC4Tr x.1.1.2.1 x.1.1.2.2.1 x.2.1.1 x.2.1.2.1 x.2.1.2.2.2.1
  got x := x.2.1.2.1
  did x := x.2.2.1
  enc x a d := Sum.inl (((0, a.1, ((), x.1.1.2.1, a.2, ()), ()), ((x.2.1.1, x.2.1.2.1, (), x.2.1.2.2.2.1, ()), d, ())))
  stop x d := Sum.inr ((((), ()), ((x.2.1.1, x.2.1.2.1, (), (), ()), d, ())))
abbrev goneC4_T : Type := VhL [rc] × OShL mach → Option ((VhL [vi, vi, rc] × OShL mach) ⊕ (VhL [.agg []] × OShL machP))
noncomputable abbrev goneC4_C (sp : goneC4_T) : Con := cq [rc] mach [vi, vi, rc] mach machP sp
theorem goneC4_g : Callable Tryz.prog 105 := ⟨Tryz.f105, body Tryz.f105, by kernel_rfl, by kernel_rfl, by kernel_rfl⟩
theorem goneC4_raw (sp_load : load_T) (sp_next : next_T) (w : Int) (r : Int) (c : Cfg) (got : List Int) (held : List Int) (did : List Acc) : runQ Tryz.f105 [rc] mach [vi, vi, rc] mach machP [(80, load_C sp_load), (103, next_C sp_next)] [] [] (((((), w, r, ()), ()), ((c, got, (), held, ()), did, ())) : VhL [rc] × OShL mach) = ((sp_load ((((), w, r, ()), rdE EK.int [2, 1] 1, ()), (c, got, (), held, ()), did, ())).bind fun val => selim val (fun val => (sp_next ((((), w, r, ()), rdE EK.int [3, 4] 1, ()), (val.2.1.1, val.2.1.2.1, (), val.2.1.2.2.2.1, ()), val.2.2.1, ())).bind fun val_1 => selim val_1 (fun val_2 => some (Sum.inl ((0, val.1.1, ((), val_2.1.1.2.1, val_2.1.1.2.2.1, ()), ()), (val_2.2.1.1, val_2.2.1.2.1, (), val_2.2.1.2.2.2.1, ()), val_2.2.2.1, ()))) fun val => some (Sum.inr (((), ()), (val.2.1.1, val.2.1.2.1, (), (), ()), val.2.2.1, ()))) fun val => some (Sum.inr (((), ()), (val.2.1.1, val.2.1.2.1, (), (), ()), val.2.2.1, ()))) := by kernel_rfl
theorem goneC4_ok : Sound Tryz.prog gl 105 (goneC4_C (Ifc.spec goneC4I)) := by
  refine cqk (fn := Tryz.f105) (G := [(80, load_C (Ifc.spec loadI)), (103, next_C (Ifc.spec nextI))]) (GOk.cons load_g load_ok (GOk.cons next_g next_ok (GOk.nil))) (by kernel_rfl) (by kernel_rfl) (Lc := []) (nh := []) (noloopN (by kernel_rfl)) ?_
  rintro ⟨⟨⟨_, w, r, _⟩, _⟩, ⟨⟨c, got, _, held, _⟩, did, _⟩⟩
  refine (goneC4_raw (Ifc.spec loadI) (Ifc.spec nextI) w r c got held did).trans ?_
  show _ = outG (goneC4I.enc ((((), w, r, ()), ()), ((c, got, (), held, ()), did, ()))) (goneC4I.stop ((((), w, r, ()), ()), ((c, got, (), held, ()), did, ()))) ((goneC4Tr w r c got held).exec got did)
  unfold goneC4Tr
  repeat' (first | (refine bindI rfl rfl (fun _ _ => ?_) (fun _ => rfl); try dsimp only [selim, cond_true, cond_false, Bool.not_true, Bool.not_false, one, none1, mI, loadI, nextI]) | rfl)
def goneC5Tr (i : Int) (other : Int) (w : Int) (r : Int) (c : Cfg) (got : List Int) (held : List Int) (n : Int) : T (Unit) :=
 bif other == n then
 .ret ()
 else
 (loadTr w r 0 c got held).bind fun x0 =>
 (unlinkTr (Sid.mk (rdE EK.int [1, 2] 0) (rdE EK.int [3, 4] 0) (rdE EK.int [1, 2] 0) (rdE EK.int [2, 1] 0)) other w r c got held).bind fun _ =>
 (setTr (w64 (w64 (c.ids + 1) + x0)) 0 c got held).bind fun _ =>
 (retireTr w r c got held).bind fun _ =>
 .ret ()
@[reducible] def goneC5I : Ifc (VhL [vi, vi, rc, .s (.ptr 1 0), .s (.ptr 2 0)] × OShL cdiq0) ((VhL [] × OShL cdiq0) ⊕ (VhL [.agg []] × OShL cdiq1)) where
  α := Unit
  tr x := goneC5Tr x.1.1 x.1.2.1 x.1.2.2.1.2.1 x.1.2.2.1.2.2.1 x.2.1.1 x.2.1.2.1 x.2.1.2.2.2.1 x.2.2.1.1
  got x := x.2.1.2.1
  did x := x.2.2.2.2.1
  enc x a d := Sum.inl (((), ((x.2.1.1, x.2.1.2.1, (), x.2.1.2.2.2.1, ()), (x.2.2.1.1, ()), ((), ()), d, ())))
  stop x d := Sum.inr ((((), ()), ((x.2.1.1, x.2.1.2.1, (), (), ()), (), (), d, ())))
abbrev goneC5_T : Type := VhL [vi, vi, rc, .s (.ptr 1 0), .s (.ptr 2 0)] × OShL cdiq0 → Option ((VhL [] × OShL cdiq0) ⊕ (VhL [.agg []] × OShL cdiq1))
noncomputable abbrev goneC5_C (sp : goneC5_T) : Con := cq [vi, vi, rc, .s (.ptr 1 0), .s (.ptr 2 0)] cdiq0 [] cdiq0 cdiq1 sp
theorem goneC5_g : Callable Tryz.prog 106 := ⟨Tryz.f106, body Tryz.f106, by kernel_rfl, by kernel_rfl, by kernel_rfl⟩
theorem goneC5_raw (sp_load : load_T) (sp_retire : retire_T) (sp_set : set_T) (sp_edgeAt : edgeAt_T) (sp_unlink : unlink_T) (i : Int) (other : Int) (w : Int) (r : Int) (c : Cfg) (got : List Int) (held : List Int) (n : Int) (did : List Acc) : runQ Tryz.f106 [vi, vi, rc, .s (.ptr 1 0), .s (.ptr 2 0)] cdiq0 [] cdiq0 cdiq1 [(80, load_C sp_load), (85, retire_C sp_retire), (76, set_C sp_set), (81, edgeAt_C sp_edgeAt), (84, unlink_C sp_unlink)] [] [] (((i, other, ((), w, r, ()), (), (), ()), ((c, got, (), held, ()), (n, ()), ((), ()), did, ())) : VhL [vi, vi, rc, .s (.ptr 1 0), .s (.ptr 2 0)] × OShL cdiq0) = (bif other == n then some (Sum.inl ((), (c, got, (), held, ()), (n, ()), ((), ()), did, ()))
else
  (sp_load ((((), w, r, ()), 0, ()), (c, got, (), held, ()), did, ())).bind fun val =>
    selim val
      (fun val =>
        (sp_unlink
              (((), Sid.mk (rdE EK.int [1, 2] 0) (rdE EK.int [3, 4] 0) (rdE EK.int [1, 2] 0) (rdE EK.int [2, 1] 0), other, ((), w, r, ()), ()), (val.2.1.1, val.2.1.2.1, (), val.2.1.2.2.2.1, ()), val.2.2.1,
                ())).bind
          fun val_1 =>
          selim val_1
            (fun val_2 =>
              (sp_edgeAt (((), val.1.1, ()), (val_2.2.1.1, val_2.2.1.2.1, (), val_2.2.1.2.2.2.1, ()), val_2.2.2.1, ())).bind fun val =>
                selim val
                  (fun val =>
                    (sp_set (((), val.1.1, 0, ()), (val.2.1.1, val.2.1.2.1, (), val.2.1.2.2.2.1, ()), val.2.2.1, ())).bind fun val =>
                      selim val
                        (fun val =>
                          (sp_retire ((((), w, r, ()), ()), (val.2.1.1, val.2.1.2.1, (), val.2.1.2.2.2.1, ()), val.2.2.1, ())).bind fun val =>
                            selim val (fun val => some (Sum.inl ((), (val.2.1.1, val.2.1.2.1, (), val.2.1.2.2.2.1, ()), (n, ()), ((), ()), val.2.2.1, ()))) fun val =>
                              some (Sum.inr (((), ()), (val.2.1.1, val.2.1.2.1, (), (), ()), (), (), val.2.2.1, ())))
                        fun val => some (Sum.inr (((), ()), (val.2.1.1, val.2.1.2.1, (), (), ()), (), (), val.2.2.1, ())))
                  fun val => some (Sum.inr (((), ()), (val.2.1.1, val.2.1.2.1, (), (), ()), (), (), val.2.2.1, ())))
            fun val => some (Sum.inr (((), ()), (val.2.1.1, val.2.1.2.1, (), (), ()), (), (), val.2.2.1, ())))
      fun val => some (Sum.inr (((), ()), (val.2.1.1, val.2.1.2.1, (), (), ()), (), (), val.2.2.1, ()))) := by kernel_rfl
theorem goneC5_ok : Sound Tryz.prog gl 106 (goneC5_C (Ifc.spec goneC5I)) := by
  refine cqk (fn := Tryz.f106) (G := [(80, load_C (Ifc.spec loadI)), (85, retire_C (Ifc.spec retireI)), (76, set_C (Ifc.spec setI)), (81, edgeAt_C (Ifc.spec edgeAtI)), (84, unlink_C (Ifc.spec unlinkI))]) (GOk.cons load_g load_ok (GOk.cons retire_g retire_ok (GOk.cons set_g set_ok (GOk.cons edgeAt_g edgeAt_ok (GOk.cons unlink_g unlink_ok (GOk.nil)))))) (by kernel_rfl) (by kernel_rfl) (Lc := []) (nh := []) (noloopN (by kernel_rfl)) ?_
  rintro ⟨⟨i, other, ⟨_, w, r, _⟩, _, _, _⟩, ⟨⟨c, got, _, held, _⟩, ⟨n, _⟩, ⟨_, _⟩, did, _⟩⟩
  refine (goneC5_raw (Ifc.spec loadI) (Ifc.spec retireI) (Ifc.spec setI) (Ifc.spec edgeAtI) (Ifc.spec unlinkI) i other w r c got held n did).trans ?_
  show _ = outG (goneC5I.enc ((i, other, ((), w, r, ()), (), (), ()), ((c, got, (), held, ()), (n, ()), ((), ()), did, ()))) (goneC5I.stop ((i, other, ((), w, r, ()), (), (), ()), ((c, got, (), held, ()), (n, ()), ((), ()), did, ()))) ((goneC5Tr i other w r c got held n).exec got did)
  unfold goneC5Tr
  repeat' (first | refine cond_out (fun _ => ?_) (fun _ => ?_) | (refine (retI (by with_reducible rfl)).trans ?_; try dsimp only [selim, cond_true, cond_false, Bool.not_true, Bool.not_false, one, none1, mI, loadI, retireI, setI, edgeAtI, unlinkI]) | (refine bindI rfl rfl (fun _ _ => ?_) (fun _ => rfl); try dsimp only [selim, cond_true, cond_false, Bool.not_true, Bool.not_false, one, none1, mI, loadI, retireI, setI, edgeAtI, unlinkI]) | rfl)
abbrev gone2L0vs : List Vh := [.clo 105 [], .clo 106 [.ptr 1 0, .ptr 2 0], .s (.ptr 4 0)]
abbrev gone2L0os : List OSh := cdiq2
noncomputable abbrev gone2L0fin : Fin := ((Fin.one 4 Tryz.f101.ntmps (.exit 0) [] [] cdiq0).or (Fin.pan 4 59 (.agg []) cdiq1))
def gone2L0Step (c : Cfg) (got : List Int) (held : List Int) (n : Int) (v11 : Int) (st : Int) : T ((Int) ⊕ (Unit)) :=
 let v12 := st
 bif !v12 == 0 then
 (goneC4Tr v11 v12 c got held).bind fun x1 =>
 (goneC5Tr 0 x1.1 v11 v12 c got held n).bind fun _ =>
 .ret (Sum.inl x1.2)
 else
 .ret (Sum.inr ())
@[reducible] def gone2L0I : Ifc (VhL gone2L0vs × OShL gone2L0os) gone2L0fin.Y where
  α := Unit
  tr x := T.loop (gone2L0Step x.2.1.1 x.2.1.2.1 x.2.1.2.2.2.1 x.2.2.1.1 x.2.2.2.2.2.1.2.1) (x.2.1.2.1.length + 10) x.2.2.2.2.2.1.2.2.1
  got x := x.2.1.2.1
  did x := x.2.2.2.2.1
  enc x a d := Sum.inl (((), ((x.2.1.1, x.2.1.2.1, (), x.2.1.2.2.2.1, ()), (x.2.2.1.1, ()), ((), ()), d, ())))
  stop x d := Sum.inr ((((), ()), ((x.2.1.1, x.2.1.2.1, (), (), ()), (), (), d, ())))
theorem gone2L0_raw (sp_load : load_T) (sp_edge : edge_T) (sp_none : none_T) (sp_goneC4 : goneC4_T) (sp_goneC5 : goneC5_T) (c : Cfg) (got : List Int) (held : List Int) (n : Int) (did : List Acc) (v11 : Int) (v12 : Int) : runW 4 Tryz.f101 0 [3, 4, 10] gone2L0vs gone2L0os gone2L0fin [(80, load_C sp_load), (82, edge_C sp_edge), (74, none_C sp_none), (105, goneC4_C sp_goneC4), (106, goneC5_C sp_goneC5)] [] [] ((((), ((), (), ()), (), ()), ((c, got, (), held, ()), (n, ()), ((), ()), did, ((), v11, v12, ()), ())) : VhL gone2L0vs × OShL gone2L0os) = ((sp_none ((((), v11, v12, ()), ()), (c, got, (), held, ()), did, ())).bind fun val => selim val (fun val => bif !val.1.1 then (sp_goneC4 ((((), v11, v12, ()), ()), (val.2.1.1, val.2.1.2.1, (), val.2.1.2.2.2.1, ()), val.2.2.1, ())).bind fun val => selim val (fun val => (sp_goneC5 ((val.1.1, val.1.2.1, ((), v11, v12, ()), (), (), ()), (val.2.1.1, val.2.1.2.1, (), val.2.1.2.2.2.1, ()), (n, ()), ((), ()), val.2.2.1, ())).bind fun val_1 => selim val_1 (fun val_2 => some (Sum.inl (((), ((), (), ()), (), ()), (val_2.2.1.1, val_2.2.1.2.1, (), val_2.2.1.2.2.2.1, ()), (val_2.2.2.1.1, ()), ((), ()), val_2.2.2.2.2.1, ((), val.1.2.2.1.2.1, val.1.2.2.1.2.2.1, ()), ()))) fun val => some (Sum.inr (Sum.inr (((), ()), (val.2.1.1, val.2.1.2.1, (), (), ()), (), (), val.2.2.2.2.1, ())))) fun val => some (Sum.inr (Sum.inr (((), ()), (val.2.1.1, val.2.1.2.1, (), (), ()), (), (), val.2.2.1, ()))) else some (Sum.inr (Sum.inl ((), (val.2.1.1, val.2.1.2.1, (), val.2.1.2.2.2.1, ()), (n, ()), ((), ()), val.2.2.1, ())))) fun val => some (Sum.inr (Sum.inr (((), ()), (val.2.1.1, val.2.1.2.1, (), (), ()), (), (), val.2.2.1, ())))) := by kernel_rfl
theorem gone2L0_ok : LOk Tryz.prog gl 4 (LCon.of Tryz.f101.ntmps [3, 4, 10] gone2L0vs gone2L0os gone2L0fin (Ifc.spec gone2L0I)) (getL (body Tryz.f101) 0) := by
  refine lwk (Lc := []) (nh := []) (G := [(80, load_C (Ifc.spec loadI)), (82, edge_C (Ifc.spec edgeI)), (74, none_C (Ifc.spec noneI)), (105, goneC4_C (Ifc.spec goneC4I)), (106, goneC5_C (Ifc.spec goneC5I))]) (GOk.cons load_g load_ok (GOk.cons edge_g edge_ok (GOk.cons none_g none_ok (GOk.cons goneC4_g goneC4_ok (GOk.cons goneC5_g goneC5_ok (GOk.nil)))))) (noloopN (by kernel_rfl)) (Fin.or_ok (Fin.one_ok _ _ _ _) (Fin.pan_ok _ _ _)) ?_
  rintro ⟨⟨_, ⟨_, _, _⟩, _, _⟩, ⟨⟨c, got, _, held, _⟩, ⟨n, _⟩, ⟨_, _⟩, did, ⟨_, v11, v12, _⟩, _⟩⟩ y hy
  refine ⟨_, loopT_ok (eX := fun (st : Int) (d : List Acc) => (let v12 := st; (((), ((), (), ()), (), ()), ((c, got, (), held, ()), (n, ()), ((), ()), d, ((), v11, v12, ()), ())) : VhL gone2L0vs × OShL gone2L0os)) (body := gone2L0Step c got held n v11) (fun st d => ?_) _ v12 did y hy⟩
  revert st
  intro v12
  refine (gone2L0_raw (Ifc.spec loadI) (Ifc.spec edgeI) (Ifc.spec noneI) (Ifc.spec goneC4I) (Ifc.spec goneC5I) c got held n d v11 v12).trans ?_
  unfold gone2L0Step
  repeat' (first | refine cond_out (fun _ => ?_) (fun _ => ?_) | (refine (retI (by with_reducible rfl)).trans ?_; try dsimp only [selim, cond_true, cond_false, Bool.not_true, Bool.not_false, one, none1, mI, loadI, edgeI, noneI, goneC4I, goneC5I]) | (refine bindI rfl rfl (fun _ _ => ?_) (fun _ => rfl); try dsimp only [selim, cond_true, cond_false, Bool.not_true, Bool.not_false, one, none1, mI, loadI, edgeI, noneI, goneC4I, goneC5I]) | rfl)
def gone2Tr (w : Int) (r : Int) (s : Sid) (c : Cfg) (got : List Int) (held : List Int) (n : Int) : T (Unit) :=
 (loadTr w r s.head c got held).bind fun x0 =>
 (T.loop (gone2L0Step c got held n 2) (got.length + 10) x0).bind fun _ =>
 .ret ()
@[reducible] def gone2I : Ifc (VhL [pm, rc, .s (.e (.st .sid)), .clo 105 [], .clo 106 [.ptr 1 0, .ptr 2 0]] × OShL cdiq0) ((VhL [] × OShL cdiq0) ⊕ (VhL [.agg []] × OShL cdiq1)) where
  α := Unit
  tr x := gone2Tr x.1.2.1.2.1 x.1.2.1.2.2.1 x.1.2.2.1 x.2.1.1 x.2.1.2.1 x.2.1.2.2.2.1 x.2.2.1.1
  got x := x.2.1.2.1
  did x := x.2.2.2.2.1
  enc x a d := Sum.inl (((), ((x.2.1.1, x.2.1.2.1, (), x.2.1.2.2.2.1, ()), (x.2.2.1.1, ()), ((), ()), d, ())))
  stop x d := Sum.inr ((((), ()), ((x.2.1.1, x.2.1.2.1, (), (), ()), (), (), d, ())))
abbrev gone2_T : Type := VhL [pm, rc, .s (.e (.st .sid)), .clo 105 [], .clo 106 [.ptr 1 0, .ptr 2 0]] × OShL cdiq0 → Option ((VhL [] × OShL cdiq0) ⊕ (VhL [.agg []] × OShL cdiq1))
noncomputable abbrev gone2_C (sp : gone2_T) : Con := cq [pm, rc, .s (.e (.st .sid)), .clo 105 [], .clo 106 [.ptr 1 0, .ptr 2 0]] cdiq0 [] cdiq0 cdiq1 sp
theorem gone2_g : Callable Tryz.prog 101 := ⟨Tryz.f101, body Tryz.f101, by kernel_rfl, by kernel_rfl, by kernel_rfl⟩
theorem gone2_raw (sp_load : load_T) (sp_edge : edge_T) (sp_none : none_T) (sp_goneC4 : goneC4_T) (sp_goneC5 : goneC5_T) (sp_gone2L0 : VhL gone2L0vs × OShL gone2L0os → Option gone2L0fin.Y) (w : Int) (r : Int) (s : Sid) (c : Cfg) (got : List Int) (held : List Int) (n : Int) (did : List Acc) : runQ Tryz.f101 [pm, rc, .s (.e (.st .sid)), .clo 105 [], .clo 106 [.ptr 1 0, .ptr 2 0]] cdiq0 [] cdiq0 cdiq1 [(80, load_C sp_load), (82, edge_C sp_edge), (74, none_C sp_none), (105, goneC4_C sp_goneC4), (106, goneC5_C sp_goneC5)] [(2, LCon.of Tryz.f101.ntmps [3, 4, 10] gone2L0vs gone2L0os gone2L0fin sp_gone2L0)] [] ((((), ((), w, r, ()), s, (), ((), (), ()), ()), ((c, got, (), held, ()), (n, ()), ((), ()), did, ())) : VhL [pm, rc, .s (.e (.st .sid)), .clo 105 [], .clo 106 [.ptr 1 0, .ptr 2 0]] × OShL cdiq0) = ((sp_load ((((), w, r, ()), s.head, ()), (c, got, (), held, ()), did, ())).bind fun val => selim val (fun val => (sp_edge (((), val.1.1, ()), (val.2.1.1, val.2.1.2.1, (), val.2.1.2.2.2.1, ()), val.2.2.1, ())).bind fun val => selim val (fun val => (sp_gone2L0 (((), ((), (), ()), (), ()), (val.2.1.1, val.2.1.2.1, (), val.2.1.2.2.2.1, ()), (n, ()), ((), ()), val.2.2.1, ((), val.1.1.2.1, val.1.1.2.2.1, ()), ())).bind fun val => selim val (fun val => some (Sum.inl ((), (val.2.1.1, val.2.1.2.1, (), val.2.1.2.2.2.1, ()), (val.2.2.1.1, ()), ((), ()), val.2.2.2.2.1, ()))) fun val => some (Sum.inr (((), ()), (val.2.1.1, val.2.1.2.1, (), (), ()), (), (), val.2.2.2.2.1, ()))) fun val => some (Sum.inr (((), ()), (val.2.1.1, val.2.1.2.1, (), (), ()), (), (), val.2.2.1, ()))) fun val => some (Sum.inr (((), ()), (val.2.1.1, val.2.1.2.1, (), (), ()), (), (), val.2.2.1, ()))) := by kernel_rfl
theorem gone2_ok : Sound Tryz.prog gl 101 (gone2_C (Ifc.spec gone2I)) := by
  refine cqk (fn := Tryz.f101) (G := [(80, load_C (Ifc.spec loadI)), (82, edge_C (Ifc.spec edgeI)), (74, none_C (Ifc.spec noneI)), (105, goneC4_C (Ifc.spec goneC4I)), (106, goneC5_C (Ifc.spec goneC5I))]) (GOk.cons load_g load_ok (GOk.cons edge_g edge_ok (GOk.cons none_g none_ok (GOk.cons goneC4_g goneC4_ok (GOk.cons goneC5_g goneC5_ok (GOk.nil)))))) (by kernel_rfl) (by kernel_rfl) (Lc := [(2, LCon.of Tryz.f101.ntmps [3, 4, 10] gone2L0vs gone2L0os gone2L0fin (Ifc.spec gone2L0I))]) (nh := []) (lcok (bs := [getL (body Tryz.f101) 0]) (by kernel_rfl) ⟨lone_ok (q := (2, LCon.of Tryz.f101.ntmps [3, 4, 10] gone2L0vs gone2L0os gone2L0fin (Ifc.spec gone2L0I))) (by kernel_rfl) gone2L0_ok, trivial⟩) ?_
  rintro ⟨⟨_, ⟨_, w, r, _⟩, s, _, ⟨_, _, _⟩, _⟩, ⟨⟨c, got, _, held, _⟩, ⟨n, _⟩, ⟨_, _⟩, did, _⟩⟩
  refine (gone2_raw (Ifc.spec loadI) (Ifc.spec edgeI) (Ifc.spec noneI) (Ifc.spec goneC4I) (Ifc.spec goneC5I) (Ifc.spec gone2L0I) w r s c got held n did).trans ?_
  show _ = outG (gone2I.enc (((), ((), w, r, ()), s, (), ((), (), ()), ()), ((c, got, (), held, ()), (n, ()), ((), ()), did, ()))) (gone2I.stop (((), ((), w, r, ()), s, (), ((), (), ()), ()), ((c, got, (), held, ()), (n, ()), ((), ()), did, ()))) ((gone2Tr w r s c got held n).exec got did)
  unfold gone2Tr
  repeat' (first | (refine (retI (by with_reducible rfl)).trans ?_; try dsimp only [selim, cond_true, cond_false, Bool.not_true, Bool.not_false, one, none1, mI, loadI, edgeI, noneI, goneC4I, goneC5I, gone2L0I]) | (refine bindI rfl rfl (fun _ _ => ?_) (fun _ => rfl); try dsimp only [selim, cond_true, cond_false, Bool.not_true, Bool.not_false, one, none1, mI, loadI, edgeI, noneI, goneC4I, goneC5I, gone2L0I]) | rfl)
@[reducible] def holdCdI : Ifc (VhL [] × OShL []) (VhL [vb] × OShL []) where
  α := Unit
  tr x := T.ret (())
  got x := []
  did x := []
  enc x a d := ((false, ()), ())
  stop x d := ((false, ()), ())
abbrev holdCd_T : Type := VhL [] × OShL [] → Option (VhL [vb] × OShL [])
noncomputable abbrev holdCd_C (sp : holdCd_T) : Con := Con.of [] [] [vb] [] sp
theorem holdCd_g : Callable Tryz.prog 100 := ⟨Tryz.f100, body Tryz.f100, by kernel_rfl, by kernel_rfl, by kernel_rfl⟩
theorem holdCd_raw : runN Tryz.f100 [] [] [vb] [] [] [] [] (((), ()) : VhL [] × OShL []) = (some ((false, ()), ())) := by kernel_rfl
theorem holdCd_ok : Sound Tryz.prog gl 100 (holdCd_C (Ifc.spec holdCdI)) := by
  refine cnk (fn := Tryz.f100) (G := []) (GOk.nil) (by kernel_rfl) (by kernel_rfl) (Lc := []) (nh := []) (noloopN (by kernel_rfl)) ?_
  rintro ⟨_, _⟩
  refine (holdCd_raw ).trans ?_
  rfl
end Go.Ax.Cd
/- The package code by contracts (printed by wip/tools/con3.py). -/
namespace Go.Ax.Cd
open Go.Proofs
set_option linter.unusedVariables false
set_option maxRecDepth 100000
def setPropTr (n : Int) (k : Int) (v : Int) (c : Cfg) (got : List Int) (held : List Int) : T (Res × List Int) :=
 (knownTr [n] c got held).bind fun x0 =>
 bif !x0 then
 .ret (Res.mk 2 0 [] [] [], held)
 else
 (latchTr [n] c got held).bind fun x1 =>
 (findTr n c got x1).bind fun x2 =>
 bif x2 == 0 then
 .ret (Res.mk 2 0 [] [] [], x1)
 else
 (loadTr 1 x2 3 c got x1).bind fun x4 =>
 (walkSTr 3 x4 c got x1 k v).bind fun x6 =>
 bif x6 then
 .ret (Res.mk 0 0 [] [] [], x1)
 else
 (takeTr 3 c got x1).bind fun x7 =>
 bif x7 == 0 then
 .ret (Res.mk 3 0 [] [] [], x1)
 else
 (storeTr 3 x7 0 k c got x1).bind fun _ =>
 (storeTr 3 x7 1 v c got x1).bind fun _ =>
 (storeTr 3 x7 2 x4 c got x1).bind fun _ =>
 (storeTr 1 x2 3 x7 c got x1).bind fun _ =>
 .ret (Res.mk 0 0 [] [] [], x1)
@[reducible] def setPropI : Ifc (VhL [pm, vi, vi, vi] × OShL mach) ((VhL [.s (.e (.st .res))] × OShL mach) ⊕ (VhL [.agg []] × OShL machP)) where
  α := Res × List Int
  tr x := setPropTr x.1.2.1 x.1.2.2.1 x.1.2.2.2.1 x.2.1.1 x.2.1.2.1 x.2.1.2.2.2.1
  got x := x.2.1.2.1
  did x := x.2.2.1
  enc x a d := Sum.inl (((a.1, ()), ((x.2.1.1, x.2.1.2.1, (), a.2, ()), d, ())))
  stop x d := Sum.inr ((((), ()), ((x.2.1.1, x.2.1.2.1, (), (), ()), d, ())))
abbrev setProp_T : Type := VhL [pm, vi, vi, vi] × OShL mach → Option ((VhL [.s (.e (.st .res))] × OShL mach) ⊕ (VhL [.agg []] × OShL machP))
noncomputable abbrev setProp_C (sp : setProp_T) : Con := cq [pm, vi, vi, vi] mach [.s (.e (.st .res))] mach machP sp
theorem setProp_g : Callable Tryz.prog 44 := ⟨Tryz.f44, body Tryz.f44, by kernel_rfl, by kernel_rfl, by kernel_rfl⟩
theorem setProp_raw (sp_load : load_T) (sp_store : store_T) (sp_take : take_T) (sp_prop : prop_T) (sp_none : none_T) (sp_find : find_T) (sp_failed : failed_T) (sp_known : known_T) (sp_latch : latch_T) (sp_walkS : walkS_T) (n : Int) (k : Int) (v : Int) (c : Cfg) (got : List Int) (held : List Int) (did : List Acc) : runQ Tryz.f44 [pm, vi, vi, vi] mach [.s (.e (.st .res))] mach machP [(80, load_C sp_load), (75, store_C sp_store), (73, take_C sp_take), (86, prop_C sp_prop), (74, none_C sp_none), (79, find_C sp_find), (51, failed_C sp_failed), (78, known_C sp_known), (71, latch_C sp_latch), (87, walkS_C sp_walkS)] [] [] ((((), n, k, v, ()), ((c, got, (), held, ()), did, ())) : VhL [pm, vi, vi, vi] × OShL mach) = ((sp_known (((), [n], ()), (c, got, (), held, ()), did, ())).bind fun val => selim val (fun val => bif !val.1.1 then (sp_failed ((2, ()), ())).bind fun val_1 => some (Sum.inl ((val_1.1.1, ()), (val.2.1.1, val.2.1.2.1, (), val.2.1.2.2.2.1, ()), val.2.2.1, ())) else (sp_latch (((), [n], ()), (val.2.1.1, val.2.1.2.1, (), val.2.1.2.2.2.1, ()), val.2.2.1, ())).bind fun val => selim val (fun val => (sp_find (((), n, ()), (val.2.1.1, val.2.1.2.1, (), val.2.1.2.2.2.1, ()), val.2.2.1, ())).bind fun val => selim val (fun val => (sp_none ((((), val.1.1.2.1, val.1.1.2.2.1, ()), ()), (val.2.1.1, val.2.1.2.1, (), val.2.1.2.2.2.1, ()), val.2.2.1, ())).bind fun val_1 => selim val_1 (fun val_2 => bif val_2.1.1 then (sp_failed ((2, ()), ())).bind fun val => some (Sum.inl ((val.1.1, ()), (val_2.2.1.1, val_2.2.1.2.1, (), val_2.2.1.2.2.2.1, ()), val_2.2.2.1, ())) else (sp_load ((((), val.1.1.2.1, val.1.1.2.2.1, ()), 3, ()), (val_2.2.1.1, val_2.2.1.2.1, (), val_2.2.1.2.2.2.1, ()), val_2.2.2.1, ())).bind fun val_3 => selim val_3 (fun val_4 => (sp_prop (((), val_4.1.1, ()), (val_4.2.1.1, val_4.2.1.2.1, (), val_4.2.1.2.2.2.1, ()), val_4.2.2.1, ())).bind fun val_5 => selim val_5 (fun val_6 => (sp_walkS (((), ((), val_6.1.1.2.1, val_6.1.1.2.2.1, ()), ((), (), ()), ()), (val_6.2.1.1, val_6.2.1.2.1, (), val_6.2.1.2.2.2.1, ()), (k, ()), (v, ()), val_6.2.2.1, ())).bind fun val_7 => selim val_7 (fun val_8 => bif val_8.1.1 then some (Sum.inl ((Res.mk 0 0 [] [] [], ()), (val_8.2.1.1, val_8.2.1.2.1, (), val_8.2.1.2.2.2.1, ()), val_8.2.2.2.2.1, ())) else (sp_take (((), 3, ()), (val_8.2.1.1, val_8.2.1.2.1, (), val_8.2.1.2.2.2.1, ()), val_8.2.2.2.2.1, ())).bind fun val_9 => selim val_9 (fun val_10 => (sp_none ((((), val_10.1.1.2.1, val_10.1.1.2.2.1, ()), ()), (val_10.2.1.1, val_10.2.1.2.1, (), val_10.2.1.2.2.2.1, ()), val_10.2.2.1, ())).bind fun val_11 => selim val_11 (fun val_12 => bif val_12.1.1 then (sp_failed ((3, ()), ())).bind fun val => some (Sum.inl ((val.1.1, ()), (val_12.2.1.1, val_12.2.1.2.1, (), val_12.2.1.2.2.2.1, ()), val_12.2.2.1, ())) else (sp_store ((((), val_10.1.1.2.1, val_10.1.1.2.2.1, ()), 0, val_8.2.2.1.1, ()), (val_12.2.1.1, val_12.2.1.2.1, (), val_12.2.1.2.2.2.1, ()), val_12.2.2.1, ())).bind fun val_13 => selim val_13 (fun val_14 => (sp_store ((((), val_10.1.1.2.1, val_10.1.1.2.2.1, ()), 1, val_8.2.2.2.1.1, ()), (val_14.2.1.1, val_14.2.1.2.1, (), val_14.2.1.2.2.2.1, ()), val_14.2.2.1, ())).bind fun val_15 => selim val_15 (fun val_16 => (sp_store ((((), val_10.1.1.2.1, val_10.1.1.2.2.1, ()), 2, val_6.1.1.2.2.1, ()), (val_16.2.1.1, val_16.2.1.2.1, (), val_16.2.1.2.2.2.1, ()), val_16.2.2.1, ())).bind fun val_17 => selim val_17 (fun val_18 => (sp_store ((((), val.1.1.2.1, val.1.1.2.2.1, ()), 3, val_10.1.1.2.2.1, ()), (val_18.2.1.1, val_18.2.1.2.1, (), val_18.2.1.2.2.2.1, ()), val_18.2.2.1, ())).bind fun val => selim val (fun val => some (Sum.inl ((Res.mk 0 0 [] [] [], ()), (val.2.1.1, val.2.1.2.1, (), val.2.1.2.2.2.1, ()), val.2.2.1, ()))) fun val => some (Sum.inr (((), ()), (val.2.1.1, val.2.1.2.1, (), (), ()), val.2.2.1, ()))) fun val => some (Sum.inr (((), ()), (val.2.1.1, val.2.1.2.1, (), (), ()), val.2.2.1, ()))) fun val => some (Sum.inr (((), ()), (val.2.1.1, val.2.1.2.1, (), (), ()), val.2.2.1, ()))) fun val => some (Sum.inr (((), ()), (val.2.1.1, val.2.1.2.1, (), (), ()), val.2.2.1, ()))) fun val => some (Sum.inr (((), ()), (val.2.1.1, val.2.1.2.1, (), (), ()), val.2.2.1, ()))) fun val => some (Sum.inr (((), ()), (val.2.1.1, val.2.1.2.1, (), (), ()), val.2.2.1, ()))) fun val => some (Sum.inr (((), ()), (val.2.1.1, val.2.1.2.1, (), (), ()), val.2.2.2.2.1, ()))) fun val => some (Sum.inr (((), ()), (val.2.1.1, val.2.1.2.1, (), (), ()), val.2.2.1, ()))) fun val => some (Sum.inr (((), ()), (val.2.1.1, val.2.1.2.1, (), (), ()), val.2.2.1, ()))) fun val => some (Sum.inr (((), ()), (val.2.1.1, val.2.1.2.1, (), (), ()), val.2.2.1, ()))) fun val => some (Sum.inr (((), ()), (val.2.1.1, val.2.1.2.1, (), (), ()), val.2.2.1, ()))) fun val => some (Sum.inr (((), ()), (val.2.1.1, val.2.1.2.1, (), (), ()), val.2.2.1, ()))) fun val => some (Sum.inr (((), ()), (val.2.1.1, val.2.1.2.1, (), (), ()), val.2.2.1, ()))) := by kernel_rfl
theorem setProp_ok : Sound Tryz.prog gl 44 (setProp_C (Ifc.spec setPropI)) := by
  refine cqk (fn := Tryz.f44) (G := [(80, load_C (Ifc.spec loadI)), (75, store_C (Ifc.spec storeI)), (73, take_C (Ifc.spec takeI)), (86, prop_C (Ifc.spec propI)), (74, none_C (Ifc.spec noneI)), (79, find_C (Ifc.spec findI)), (51, failed_C (Ifc.spec failedI)), (78, known_C (Ifc.spec knownI)), (71, latch_C (Ifc.spec latchI)), (87, walkS_C (Ifc.spec walkSI))]) (GOk.cons load_g load_ok (GOk.cons store_g store_ok (GOk.cons take_g take_ok (GOk.cons prop_g prop_ok (GOk.cons none_g none_ok (GOk.cons find_g find_ok (GOk.cons failed_g failed_ok (GOk.cons known_g known_ok (GOk.cons latch_g latch_ok (GOk.cons walkS_g walkS_ok (GOk.nil))))))))))) (by kernel_rfl) (by kernel_rfl) (Lc := []) (nh := []) (noloopN (by kernel_rfl)) ?_
  rintro ⟨⟨_, n, k, v, _⟩, ⟨⟨c, got, _, held, _⟩, did, _⟩⟩
  refine (setProp_raw (Ifc.spec loadI) (Ifc.spec storeI) (Ifc.spec takeI) (Ifc.spec propI) (Ifc.spec noneI) (Ifc.spec findI) (Ifc.spec failedI) (Ifc.spec knownI) (Ifc.spec latchI) (Ifc.spec walkSI) n k v c got held did).trans ?_
  show _ = outG (setPropI.enc (((), n, k, v, ()), ((c, got, (), held, ()), did, ()))) (setPropI.stop (((), n, k, v, ()), ((c, got, (), held, ()), did, ()))) ((setPropTr n k v c got held).exec got did)
  unfold setPropTr
  repeat' (first | refine cond_out (fun _ => ?_) (fun _ => ?_) | (refine (retI (by with_reducible rfl)).trans ?_; try dsimp only [selim, cond_true, cond_false, Bool.not_true, Bool.not_false, one, none1, mI, loadI, storeI, takeI, propI, noneI, findI, failedI, knownI, latchI, walkSI]) | (refine bindI rfl rfl (fun _ _ => ?_) (fun _ => rfl); try dsimp only [selim, cond_true, cond_false, Bool.not_true, Bool.not_false, one, none1, mI, loadI, storeI, takeI, propI, noneI, findI, failedI, knownI, latchI, walkSI]) | rfl)
end Go.Ax.Cd
/- The package code by contracts (printed by wip/tools/con3.py). -/
namespace Go.Ax.Cd
open Go.Proofs
set_option linter.unusedVariables false
set_option maxRecDepth 100000
def delPropTr (n : Int) (k : Int) (c : Cfg) (got : List Int) (held : List Int) : T (Res × List Int) :=
 (knownTr [n] c got held).bind fun x0 =>
 bif !x0 then
 .ret (Res.mk 2 0 [] [] [], held)
 else
 (latchTr [n] c got held).bind fun x1 =>
 (findTr n c got x1).bind fun x2 =>
 bif x2 == 0 then
 .ret (Res.mk 2 0 [] [] [], x1)
 else
 (loadTr 1 x2 3 c got x1).bind fun x4 =>
 (walkDTr 3 x4 c got x1 k 1 x2).bind fun x6 =>
 bif x6 then
 .ret (Res.mk 0 0 [] [] [], x1)
 else
 .ret (Res.mk 2 0 [] [] [], x1)
@[reducible] def delPropI : Ifc (VhL [pm, vi, vi] × OShL mach) ((VhL [.s (.e (.st .res))] × OShL mach) ⊕ (VhL [.agg []] × OShL machP)) where
  α := Res × List Int
  tr x := delPropTr x.1.2.1 x.1.2.2.1 x.2.1.1 x.2.1.2.1 x.2.1.2.2.2.1
  got x := x.2.1.2.1
  did x := x.2.2.1
  enc x a d := Sum.inl (((a.1, ()), ((x.2.1.1, x.2.1.2.1, (), a.2, ()), d, ())))
  stop x d := Sum.inr ((((), ()), ((x.2.1.1, x.2.1.2.1, (), (), ()), d, ())))
abbrev delProp_T : Type := VhL [pm, vi, vi] × OShL mach → Option ((VhL [.s (.e (.st .res))] × OShL mach) ⊕ (VhL [.agg []] × OShL machP))
noncomputable abbrev delProp_C (sp : delProp_T) : Con := cq [pm, vi, vi] mach [.s (.e (.st .res))] mach machP sp
theorem delProp_g : Callable Tryz.prog 45 := ⟨Tryz.f45, body Tryz.f45, by kernel_rfl, by kernel_rfl, by kernel_rfl⟩
theorem delProp_raw (sp_load : load_T) (sp_prop : prop_T) (sp_none : none_T) (sp_find : find_T) (sp_failed : failed_T) (sp_known : known_T) (sp_latch : latch_T) (sp_walkD : walkD_T) (n : Int) (k : Int) (c : Cfg) (got : List Int) (held : List Int) (did : List Acc) : runQ Tryz.f45 [pm, vi, vi] mach [.s (.e (.st .res))] mach machP [(80, load_C sp_load), (86, prop_C sp_prop), (74, none_C sp_none), (79, find_C sp_find), (51, failed_C sp_failed), (78, known_C sp_known), (71, latch_C sp_latch), (87, walkD_C sp_walkD)] [] [] ((((), n, k, ()), ((c, got, (), held, ()), did, ())) : VhL [pm, vi, vi] × OShL mach) = ((sp_known (((), [n], ()), (c, got, (), held, ()), did, ())).bind fun val => selim val (fun val => bif !val.1.1 then (sp_failed ((2, ()), ())).bind fun val_1 => some (Sum.inl ((val_1.1.1, ()), (val.2.1.1, val.2.1.2.1, (), val.2.1.2.2.2.1, ()), val.2.2.1, ())) else (sp_latch (((), [n], ()), (val.2.1.1, val.2.1.2.1, (), val.2.1.2.2.2.1, ()), val.2.2.1, ())).bind fun val => selim val (fun val => (sp_find (((), n, ()), (val.2.1.1, val.2.1.2.1, (), val.2.1.2.2.2.1, ()), val.2.2.1, ())).bind fun val => selim val (fun val => (sp_none ((((), val.1.1.2.1, val.1.1.2.2.1, ()), ()), (val.2.1.1, val.2.1.2.1, (), val.2.1.2.2.2.1, ()), val.2.2.1, ())).bind fun val_1 => selim val_1 (fun val_2 => bif val_2.1.1 then (sp_failed ((2, ()), ())).bind fun val => some (Sum.inl ((val.1.1, ()), (val_2.2.1.1, val_2.2.1.2.1, (), val_2.2.1.2.2.2.1, ()), val_2.2.2.1, ())) else (sp_load ((((), val.1.1.2.1, val.1.1.2.2.1, ()), 3, ()), (val_2.2.1.1, val_2.2.1.2.1, (), val_2.2.1.2.2.2.1, ()), val_2.2.2.1, ())).bind fun val_3 => selim val_3 (fun val_4 => (sp_prop (((), val_4.1.1, ()), (val_4.2.1.1, val_4.2.1.2.1, (), val_4.2.1.2.2.2.1, ()), val_4.2.2.1, ())).bind fun val_5 => selim val_5 (fun val_6 => (sp_walkD (((), ((), val_6.1.1.2.1, val_6.1.1.2.2.1, ()), ((), (), ()), ()), (val_6.2.1.1, val_6.2.1.2.1, (), val_6.2.1.2.2.2.1, ()), (k, ()), ((), val.1.1.2.1, val.1.1.2.2.1, ()), val_6.2.2.1, ())).bind fun val => selim val (fun val => bif val.1.1 then some (Sum.inl ((Res.mk 0 0 [] [] [], ()), (val.2.1.1, val.2.1.2.1, (), val.2.1.2.2.2.1, ()), val.2.2.2.2.1, ())) else (sp_failed ((2, ()), ())).bind fun val_7 => some (Sum.inl ((val_7.1.1, ()), (val.2.1.1, val.2.1.2.1, (), val.2.1.2.2.2.1, ()), val.2.2.2.2.1, ()))) fun val => some (Sum.inr (((), ()), (val.2.1.1, val.2.1.2.1, (), (), ()), val.2.2.2.2.1, ()))) fun val => some (Sum.inr (((), ()), (val.2.1.1, val.2.1.2.1, (), (), ()), val.2.2.1, ()))) fun val => some (Sum.inr (((), ()), (val.2.1.1, val.2.1.2.1, (), (), ()), val.2.2.1, ()))) fun val => some (Sum.inr (((), ()), (val.2.1.1, val.2.1.2.1, (), (), ()), val.2.2.1, ()))) fun val => some (Sum.inr (((), ()), (val.2.1.1, val.2.1.2.1, (), (), ()), val.2.2.1, ()))) fun val => some (Sum.inr (((), ()), (val.2.1.1, val.2.1.2.1, (), (), ()), val.2.2.1, ()))) fun val => some (Sum.inr (((), ()), (val.2.1.1, val.2.1.2.1, (), (), ()), val.2.2.1, ()))) := by kernel_rfl
theorem delProp_ok : Sound Tryz.prog gl 45 (delProp_C (Ifc.spec delPropI)) := by
  refine cqk (fn := Tryz.f45) (G := [(80, load_C (Ifc.spec loadI)), (86, prop_C (Ifc.spec propI)), (74, none_C (Ifc.spec noneI)), (79, find_C (Ifc.spec findI)), (51, failed_C (Ifc.spec failedI)), (78, known_C (Ifc.spec knownI)), (71, latch_C (Ifc.spec latchI)), (87, walkD_C (Ifc.spec walkDI))]) (GOk.cons load_g load_ok (GOk.cons prop_g prop_ok (GOk.cons none_g none_ok (GOk.cons find_g find_ok (GOk.cons failed_g failed_ok (GOk.cons known_g known_ok (GOk.cons latch_g latch_ok (GOk.cons walkD_g walkD_ok (GOk.nil))))))))) (by kernel_rfl) (by kernel_rfl) (Lc := []) (nh := []) (noloopN (by kernel_rfl)) ?_
  rintro ⟨⟨_, n, k, _⟩, ⟨⟨c, got, _, held, _⟩, did, _⟩⟩
  refine (delProp_raw (Ifc.spec loadI) (Ifc.spec propI) (Ifc.spec noneI) (Ifc.spec findI) (Ifc.spec failedI) (Ifc.spec knownI) (Ifc.spec latchI) (Ifc.spec walkDI) n k c got held did).trans ?_
  show _ = outG (delPropI.enc (((), n, k, ()), ((c, got, (), held, ()), did, ()))) (delPropI.stop (((), n, k, ()), ((c, got, (), held, ()), did, ()))) ((delPropTr n k c got held).exec got did)
  unfold delPropTr
  repeat' (first | refine cond_out (fun _ => ?_) (fun _ => ?_) | (refine (retI (by with_reducible rfl)).trans ?_; try dsimp only [selim, cond_true, cond_false, Bool.not_true, Bool.not_false, one, none1, mI, loadI, propI, noneI, findI, failedI, knownI, latchI, walkDI]) | (refine bindI rfl rfl (fun _ _ => ?_) (fun _ => rfl); try dsimp only [selim, cond_true, cond_false, Bool.not_true, Bool.not_false, one, none1, mI, loadI, propI, noneI, findI, failedI, knownI, latchI, walkDI]) | rfl)
end Go.Ax.Cd
