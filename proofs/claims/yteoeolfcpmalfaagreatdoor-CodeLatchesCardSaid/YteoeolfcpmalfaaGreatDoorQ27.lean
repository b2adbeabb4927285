/- The package code by contracts (printed by wip/tools/con3.py). -/
import Derived.Test.YteoeolfcpmalfaaGreatDoorQ14
import Derived.Test.YteoeolfcpmalfaaGreatDoorQ25
namespace Go.Ax.Cd
open Go.Proofs
set_option linter.unusedVariables false
set_option maxRecDepth 100000
abbrev cdgq6 : List OSh := [.box [.e (.st .cfg), .e (.sl .int), .own 2, .any], .any, .arr (.st .acc)]
abbrev cdgq5 : List OSh := [.box [.e (.st .cfg), .e (.sl .int), .own 2, .any], .any, .arr (.st .acc), .any]
abbrev cdgq4 : List OSh := [.box [.e (.st .cfg), .e (.sl .int), .own 3, .any], .any, .any, .arr (.st .acc)]
abbrev cdgq3 : List OSh := [.box [.e (.st .cfg), .e (.sl .int), .own 2, .sln .int], .box [.e .int], .arr (.st .acc)]
abbrev cdgq2 : List OSh := [.box [.e (.st .cfg), .e (.sl .int), .own 3, .sln .int], .box [.e .int], .box [.e .int], .arr (.st .acc)]
abbrev cdgq1 : List OSh := [.box [.e (.st .cfg), .e (.sl .int), .own 3, .sln .int], .box [.e .int], .box [.ptr 0 0, .e .int, .e .int], .arr (.st .acc)]
abbrev cdgq0 : List OSh := [.box [.e (.st .cfg), .e (.sl .int), .own 2, .sln .int], .box [.e .int, .e .int, .own 3, .e (.sl (.st .en)), .e (.sl (.st .en))], .arr (.st .acc), .arr (.st .pr)]
def setCTr (w : Int) (r : Int) (w2 : Int) (r2 : Int) (c : Cfg) (got : List Int) (held : List Int) (k : Int) (v : Int) : T (Bool) :=
 (loadTr w r 0 c got held).bind fun x0 =>
 bif x0 != k then
 .ret false
 else
 (storeTr w r 1 v c got held).bind fun _ =>
 .ret true
@[reducible] def setCI : Ifc (VhL [rc, rc, .s (.ptr 1 0), .s (.ptr 2 0)] × OShL cdgq2) ((VhL [vb] × OShL cdgq2) ⊕ (VhL [.agg []] × OShL cdgq4)) where
  α := Bool
  tr x := setCTr x.1.1.2.1 x.1.1.2.2.1 x.1.2.1.2.1 x.1.2.1.2.2.1 x.2.1.1 x.2.1.2.1 x.2.1.2.2.2.1 x.2.2.1.1 x.2.2.2.1.1
  got x := x.2.1.2.1
  did x := x.2.2.2.2.1
  enc x a d := Sum.inl (((a, ()), ((x.2.1.1, x.2.1.2.1, (), x.2.1.2.2.2.1, ()), (x.2.2.1.1, ()), (x.2.2.2.1.1, ()), d, ())))
  stop x d := Sum.inr ((((), ()), ((x.2.1.1, x.2.1.2.1, (), (), ()), (), (), d, ())))
abbrev setC_T : Type := VhL [rc, rc, .s (.ptr 1 0), .s (.ptr 2 0)] × OShL cdgq2 → Option ((VhL [vb] × OShL cdgq2) ⊕ (VhL [.agg []] × OShL cdgq4))
noncomputable abbrev setC_C (sp : setC_T) : Con := cq [rc, rc, .s (.ptr 1 0), .s (.ptr 2 0)] cdgq2 [vb] cdgq2 cdgq4 sp
theorem setC_g : Callable Tryz.prog 88 := ⟨Tryz.f88, body Tryz.f88, by kernel_rfl, by kernel_rfl, by kernel_rfl⟩
theorem setC_raw (sp_load : load_T) (sp_store : store_T) (w : Int) (r : Int) (w2 : Int) (r2 : Int) (c : Cfg) (got : List Int) (held : List Int) (k : Int) (v : Int) (did : List Acc) : runQ Tryz.f88 [rc, rc, .s (.ptr 1 0), .s (.ptr 2 0)] cdgq2 [vb] cdgq2 cdgq4 [(80, load_C sp_load), (75, store_C sp_store)] [] [] (((((), w, r, ()), ((), w2, r2, ()), (), (), ()), ((c, got, (), held, ()), (k, ()), (v, ()), did, ())) : VhL [rc, rc, .s (.ptr 1 0), .s (.ptr 2 0)] × OShL cdgq2) = ((sp_load ((((), w, r, ()), 0, ()), (c, got, (), held, ()), did, ())).bind fun val => selim val (fun val => bif val.1.1 != k then some (Sum.inl ((false, ()), (val.2.1.1, val.2.1.2.1, (), val.2.1.2.2.2.1, ()), (k, ()), (v, ()), val.2.2.1, ())) else (sp_store ((((), w, r, ()), 1, v, ()), (val.2.1.1, val.2.1.2.1, (), val.2.1.2.2.2.1, ()), val.2.2.1, ())).bind fun val => selim val (fun val => some (Sum.inl ((true, ()), (val.2.1.1, val.2.1.2.1, (), val.2.1.2.2.2.1, ()), (k, ()), (v, ()), val.2.2.1, ()))) fun val => some (Sum.inr (((), ()), (val.2.1.1, val.2.1.2.1, (), (), ()), (), (), val.2.2.1, ()))) fun val => some (Sum.inr (((), ()), (val.2.1.1, val.2.1.2.1, (), (), ()), (), (), val.2.2.1, ()))) := by kernel_rfl
theorem setC_ok : Sound Tryz.prog gl 88 (setC_C (Ifc.spec setCI)) := by
  refine cqk (fn := Tryz.f88) (G := [(80, load_C (Ifc.spec loadI)), (75, store_C (Ifc.spec storeI))]) (GOk.cons load_g load_ok (GOk.cons store_g store_ok (GOk.nil))) (by kernel_rfl) (by kernel_rfl) (Lc := []) (nh := []) (noloopN (by kernel_rfl)) ?_
  rintro ⟨⟨⟨_, w, r, _⟩, ⟨_, w2, r2, _⟩, _, _, _⟩, ⟨⟨c, got, _, held, _⟩, ⟨k, _⟩, ⟨v, _⟩, did, _⟩⟩
  refine (setC_raw (Ifc.spec loadI) (Ifc.spec storeI) w r w2 r2 c got held k v did).trans ?_
  show _ = outG (setCI.enc ((((), w, r, ()), ((), w2, r2, ()), (), (), ()), ((c, got, (), held, ()), (k, ()), (v, ()), did, ()))) (setCI.stop ((((), w, r, ()), ((), w2, r2, ()), (), (), ()), ((c, got, (), held, ()), (k, ()), (v, ()), did, ()))) ((setCTr w r w2 r2 c got held k v).exec got did)
  unfold setCTr
  repeat' (first | refine cond_out (fun _ => ?_) (fun _ => ?_) | (refine bindI rfl rfl (fun _ _ => ?_) (fun _ => rfl); try dsimp only [selim, cond_true, cond_false, Bool.not_true, Bool.not_false, one, none1, mI, loadI, storeI]) | rfl)
abbrev walkSL0vs : List Vh := [.clo 88 [.ptr 1 0, .ptr 2 0], .s (.ptr 4 0), .s (.ptr 5 0)]
abbrev walkSL0os : List OSh := [.box [.e (.st .cfg), .e (.sl .int), .own 3, .sln .int], .box [.e .int], .box [.e .int], .arr (.st .acc), .box [.ptr 0 0, .e .int, .e .int], .box [.ptr 0 0, .e .int, .e .int]]
noncomputable abbrev walkSL0fin : Fin := ((Fin.one 4 Tryz.f87.ntmps (.exit 0) [] [] cdgq2).or ((Fin.one 4 Tryz.f87.ntmps .ret [6] [vb] cdgq2).or (Fin.pan 4 59 (.agg []) cdgq4)))
def walkSL0Step (c : Cfg) (got : List Int) (held : List Int) (k : Int) (v : Int) (v15 : Int) (st : Int × Int × Int) : T ((Int × Int × Int) ⊕ (Unit ⊕ Unit)) :=
 let v12 := st.1
 let v13 := st.2.1
 let v16 := st.2.2
 bif !v16 == 0 then
 (setCTr v15 v16 v12 v13 c got held k v).bind fun x1 =>
 bif x1 then
 .ret (Sum.inr (Sum.inr (())))
 else
 (nextTr v15 v16 2 c got held).bind fun x2 =>
 .ret (Sum.inl (v15, v16, x2))
 else
 .ret (Sum.inr (Sum.inl (())))
@[reducible] def walkSL0I : Ifc (VhL walkSL0vs × OShL walkSL0os) walkSL0fin.Y where
  α := Unit ⊕ Unit
  tr x := T.loop (walkSL0Step x.2.1.1 x.2.1.2.1 x.2.1.2.2.2.1 x.2.2.1.1 x.2.2.2.1.1 x.2.2.2.2.2.2.1.2.1) (x.2.1.2.1.length + 10) (x.2.2.2.2.2.1.2.1, x.2.2.2.2.2.1.2.2.1, x.2.2.2.2.2.2.1.2.2.1)
  got x := x.2.1.2.1
  did x := x.2.2.2.2.1
  enc x a d := match a with | Sum.inl (b) => Sum.inl (((), ((x.2.1.1, x.2.1.2.1, (), x.2.1.2.2.2.1, ()), (x.2.2.1.1, ()), (x.2.2.2.1.1, ()), d, ()))) | Sum.inr (b) => Sum.inr (Sum.inl (((true, ()), ((x.2.1.1, x.2.1.2.1, (), x.2.1.2.2.2.1, ()), (x.2.2.1.1, ()), (x.2.2.2.1.1, ()), d, ()))))
  stop x d := Sum.inr (Sum.inr ((((), ()), ((x.2.1.1, x.2.1.2.1, (), (), ()), (), (), d, ()))))
theorem walkSL0_raw (sp_next : next_T) (sp_prop : prop_T) (sp_none : none_T) (sp_setC : setC_T) (c : Cfg) (got : List Int) (held : List Int) (k : Int) (v : Int) (did : List Acc) (v12 : Int) (v13 : Int) (v15 : Int) (v16 : Int) : runW 4 Tryz.f87 0 [2, 7, 8] walkSL0vs walkSL0os walkSL0fin [(103, next_C sp_next), (86, prop_C sp_prop), (74, none_C sp_none), (88, setC_C sp_setC)] [] [] (((((), (), ()), (), (), ()), ((c, got, (), held, ()), (k, ()), (v, ()), did, ((), v12, v13, ()), ((), v15, v16, ()), ())) : VhL walkSL0vs × OShL walkSL0os) = ((sp_none ((((), v15, v16, ()), ()), (c, got, (), held, ()), did, ())).bind fun val => selim val (fun val => bif !val.1.1 then (sp_setC ((((), v15, v16, ()), ((), v12, v13, ()), (), (), ()), (val.2.1.1, val.2.1.2.1, (), val.2.1.2.2.2.1, ()), (k, ()), (v, ()), val.2.2.1, ())).bind fun val => selim val (fun val => bif val.1.1 then some (Sum.inr (Sum.inr (Sum.inl ((true, ()), (val.2.1.1, val.2.1.2.1, (), val.2.1.2.2.2.1, ()), (val.2.2.1.1, ()), (val.2.2.2.1.1, ()), val.2.2.2.2.1, ())))) else (sp_next ((((), v15, v16, ()), 2, ()), (val.2.1.1, val.2.1.2.1, (), val.2.1.2.2.2.1, ()), val.2.2.2.2.1, ())).bind fun val_1 => selim val_1 (fun val_2 => some (Sum.inl ((((), (), ()), (), (), ()), (val_2.2.1.1, val_2.2.1.2.1, (), val_2.2.1.2.2.2.1, ()), (val.2.2.1.1, ()), (val.2.2.2.1.1, ()), val_2.2.2.1, ((), v15, v16, ()), ((), val_2.1.1.2.1, val_2.1.1.2.2.1, ()), ()))) fun val => some (Sum.inr (Sum.inr (Sum.inr (((), ()), (val.2.1.1, val.2.1.2.1, (), (), ()), (), (), val.2.2.1, ()))))) fun val => some (Sum.inr (Sum.inr (Sum.inr (((), ()), (val.2.1.1, val.2.1.2.1, (), (), ()), (), (), val.2.2.2.2.1, ())))) else some (Sum.inr (Sum.inl ((), (val.2.1.1, val.2.1.2.1, (), val.2.1.2.2.2.1, ()), (k, ()), (v, ()), val.2.2.1, ())))) fun val => some (Sum.inr (Sum.inr (Sum.inr (((), ()), (val.2.1.1, val.2.1.2.1, (), (), ()), (), (), val.2.2.1, ()))))) := by kernel_rfl
theorem walkSL0_ok : LOk Tryz.prog gl 4 (LCon.of Tryz.f87.ntmps [2, 7, 8] walkSL0vs walkSL0os walkSL0fin (Ifc.spec walkSL0I)) (getL (body Tryz.f87) 0) := by
  refine lwk (Lc := []) (nh := []) (G := [(103, next_C (Ifc.spec nextI)), (86, prop_C (Ifc.spec propI)), (74, none_C (Ifc.spec noneI)), (88, setC_C (Ifc.spec setCI))]) (GOk.cons next_g next_ok (GOk.cons prop_g prop_ok (GOk.cons none_g none_ok (GOk.cons setC_g setC_ok (GOk.nil))))) (noloopN (by kernel_rfl)) (Fin.or_ok (Fin.one_ok _ _ _ _) (Fin.or_ok (Fin.one_ok _ _ _ _) (Fin.pan_ok _ _ _))) ?_
  rintro ⟨⟨⟨_, _, _⟩, _, _, _⟩, ⟨⟨c, got, _, held, _⟩, ⟨k, _⟩, ⟨v, _⟩, did, ⟨_, v12, v13, _⟩, ⟨_, v15, v16, _⟩, _⟩⟩ y hy
  refine ⟨_, loopT_ok (eX := fun (st : Int × Int × Int) (d : List Acc) => (let v12 := st.1; let v13 := st.2.1; let v16 := st.2.2; ((((), (), ()), (), (), ()), ((c, got, (), held, ()), (k, ()), (v, ()), d, ((), v12, v13, ()), ((), v15, v16, ()), ())) : VhL walkSL0vs × OShL walkSL0os)) (body := walkSL0Step c got held k v v15) (fun st d => ?_) _ (v12, v13, v16) did y hy⟩
  obtain ⟨v12, v13, v16⟩ := st
  refine (walkSL0_raw (Ifc.spec nextI) (Ifc.spec propI) (Ifc.spec noneI) (Ifc.spec setCI) c got held k v d v12 v13 v15 v16).trans ?_
  unfold walkSL0Step
  repeat' (first | refine cond_out (fun _ => ?_) (fun _ => ?_) | (refine (retI (by with_reducible rfl)).trans ?_; try dsimp only [selim, cond_true, cond_false, Bool.not_true, Bool.not_false, one, none1, mI, nextI, propI, noneI, setCI]) | (refine bindI rfl rfl (fun _ _ => ?_) (fun _ => rfl); try dsimp only [selim, cond_true, cond_false, Bool.not_true, Bool.not_false, one, none1, mI, nextI, propI, noneI, setCI]) | rfl)
def walkSTr (w : Int) (r : Int) (c : Cfg) (got : List Int) (held : List Int) (k : Int) (v : Int) : T (Bool) :=
 (T.loop (walkSL0Step c got held k v w) (got.length + 10) (3, 0, r)).bind fun b1 => selim b1
 (fun x1 => .ret false)
 (fun y1 => .ret true)
@[reducible] def walkSI : Ifc (VhL [pm, rc, .clo 88 [.ptr 1 0, .ptr 2 0]] × OShL cdgq2) ((VhL [vb] × OShL cdgq2) ⊕ (VhL [.agg []] × OShL cdgq4)) where
  α := Bool
  tr x := walkSTr x.1.2.1.2.1 x.1.2.1.2.2.1 x.2.1.1 x.2.1.2.1 x.2.1.2.2.2.1 x.2.2.1.1 x.2.2.2.1.1
  got x := x.2.1.2.1
  did x := x.2.2.2.2.1
  enc x a d := Sum.inl (((a, ()), ((x.2.1.1, x.2.1.2.1, (), x.2.1.2.2.2.1, ()), (x.2.2.1.1, ()), (x.2.2.2.1.1, ()), d, ())))
  stop x d := Sum.inr ((((), ()), ((x.2.1.1, x.2.1.2.1, (), (), ()), (), (), d, ())))
abbrev walkS_T : Type := VhL [pm, rc, .clo 88 [.ptr 1 0, .ptr 2 0]] × OShL cdgq2 → Option ((VhL [vb] × OShL cdgq2) ⊕ (VhL [.agg []] × OShL cdgq4))
noncomputable abbrev walkS_C (sp : walkS_T) : Con := cq [pm, rc, .clo 88 [.ptr 1 0, .ptr 2 0]] cdgq2 [vb] cdgq2 cdgq4 sp
theorem walkS_g : Callable Tryz.prog 87 := ⟨Tryz.f87, body Tryz.f87, by kernel_rfl, by kernel_rfl, by kernel_rfl⟩
theorem walkS_raw (sp_next : next_T) (sp_prop : prop_T) (sp_none : none_T) (sp_setC : setC_T) (sp_walkSL0 : VhL walkSL0vs × OShL walkSL0os → Option walkSL0fin.Y) (w : Int) (r : Int) (c : Cfg) (got : List Int) (held : List Int) (k : Int) (v : Int) (did : List Acc) : runQ Tryz.f87 [pm, rc, .clo 88 [.ptr 1 0, .ptr 2 0]] cdgq2 [vb] cdgq2 cdgq4 [(103, next_C sp_next), (86, prop_C sp_prop), (74, none_C sp_none), (88, setC_C sp_setC)] [(3, LCon.of Tryz.f87.ntmps [2, 7, 8] walkSL0vs walkSL0os walkSL0fin sp_walkSL0)] [] ((((), ((), w, r, ()), ((), (), ()), ()), ((c, got, (), held, ()), (k, ()), (v, ()), did, ())) : VhL [pm, rc, .clo 88 [.ptr 1 0, .ptr 2 0]] × OShL cdgq2) = ((sp_prop (((), 0, ()), (c, got, (), held, ()), did, ())).bind fun val => selim val (fun val => (sp_walkSL0 ((((), (), ()), (), (), ()), (val.2.1.1, val.2.1.2.1, (), val.2.1.2.2.2.1, ()), (k, ()), (v, ()), val.2.2.1, ((), val.1.1.2.1, val.1.1.2.2.1, ()), ((), w, r, ()), ())).bind fun val => selim val (fun val => some (Sum.inl ((false, ()), (val.2.1.1, val.2.1.2.1, (), val.2.1.2.2.2.1, ()), (val.2.2.1.1, ()), (val.2.2.2.1.1, ()), val.2.2.2.2.1, ()))) fun val => selim val (fun val => some (Sum.inl ((val.1.1, ()), (val.2.1.1, val.2.1.2.1, (), val.2.1.2.2.2.1, ()), (val.2.2.1.1, ()), (val.2.2.2.1.1, ()), val.2.2.2.2.1, ()))) fun val => some (Sum.inr (((), ()), (val.2.1.1, val.2.1.2.1, (), (), ()), (), (), val.2.2.2.2.1, ()))) fun val => some (Sum.inr (((), ()), (val.2.1.1, val.2.1.2.1, (), (), ()), (), (), val.2.2.1, ()))) := by kernel_rfl
theorem walkS_ok : Sound Tryz.prog gl 87 (walkS_C (Ifc.spec walkSI)) := by
  refine cqk (fn := Tryz.f87) (G := [(103, next_C (Ifc.spec nextI)), (86, prop_C (Ifc.spec propI)), (74, none_C (Ifc.spec noneI)), (88, setC_C (Ifc.spec setCI))]) (GOk.cons next_g next_ok (GOk.cons prop_g prop_ok (GOk.cons none_g none_ok (GOk.cons setC_g setC_ok (GOk.nil))))) (by kernel_rfl) (by kernel_rfl) (Lc := [(3, LCon.of Tryz.f87.ntmps [2, 7, 8] walkSL0vs walkSL0os walkSL0fin (Ifc.spec walkSL0I))]) (nh := []) (lcok (bs := [getL (body Tryz.f87) 0]) (by kernel_rfl) ⟨lone_ok (q := (3, LCon.of Tryz.f87.ntmps [2, 7, 8] walkSL0vs walkSL0os walkSL0fin (Ifc.spec walkSL0I))) (by kernel_rfl) walkSL0_ok, trivial⟩) ?_
  rintro ⟨⟨_, ⟨_, w, r, _⟩, ⟨_, _, _⟩, _⟩, ⟨⟨c, got, _, held, _⟩, ⟨k, _⟩, ⟨v, _⟩, did, _⟩⟩
  refine (walkS_raw (Ifc.spec nextI) (Ifc.spec propI) (Ifc.spec noneI) (Ifc.spec setCI) (Ifc.spec walkSL0I) w r c got held k v did).trans ?_
  show _ = outG (walkSI.enc (((), ((), w, r, ()), ((), (), ()), ()), ((c, got, (), held, ()), (k, ()), (v, ()), did, ()))) (walkSI.stop (((), ((), w, r, ()), ((), (), ()), ()), ((c, got, (), held, ()), (k, ()), (v, ()), did, ()))) ((walkSTr w r c got held k v).exec got did)
  unfold walkSTr
  refine (retI rfl).trans ?_
  dsimp only [selim, cond_true, cond_false, Bool.not_true, Bool.not_false, one, none1, mI, nextI, propI, noneI, setCI, walkSL0I]
  refine bindI rfl rfl (fun b1 d1 => ?_) (fun d => rfl)
  rcases b1 with x1 | y1
  · dsimp only [selim, cond_true, cond_false, Bool.not_true, Bool.not_false, one, none1, mI, nextI, propI, noneI, setCI, walkSL0I]
    try (first | refine (cond_t rfl).trans ?_ | refine (cond_f rfl).trans ?_)
    rfl
  · dsimp only [selim, cond_true, cond_false, Bool.not_true, Bool.not_false, one, none1, mI, nextI, propI, noneI, setCI, walkSL0I]
    try (first | refine (cond_t rfl).trans ?_ | refine (cond_f rfl).trans ?_)
    rfl
def delCTr (w : Int) (r : Int) (w2 : Int) (r2 : Int) (c : Cfg) (got : List Int) (held : List Int) (k : Int) (w3 : Int) (r3 : Int) : T (Bool) :=
 (loadTr w r 0 c got held).bind fun x0 =>
 bif x0 != k then
 .ret false
 else
 (loadTr w r 2 c got held).bind fun x1 =>
 bif r2 == 0 then
 (storeTr w3 r3 3 x1 c got held).bind fun _ =>
 (retireTr w r c got held).bind fun _ =>
 .ret true
 else
 (storeTr w2 r2 2 x1 c got held).bind fun _ =>
 (retireTr w r c got held).bind fun _ =>
 .ret true
@[reducible] def delCI : Ifc (VhL [rc, rc, .s (.ptr 1 0), .s (.ptr 2 0)] × OShL cdgq1) ((VhL [vb] × OShL cdgq1) ⊕ (VhL [.agg []] × OShL cdgq4)) where
  α := Bool
  tr x := delCTr x.1.1.2.1 x.1.1.2.2.1 x.1.2.1.2.1 x.1.2.1.2.2.1 x.2.1.1 x.2.1.2.1 x.2.1.2.2.2.1 x.2.2.1.1 x.2.2.2.1.2.1 x.2.2.2.1.2.2.1
  got x := x.2.1.2.1
  did x := x.2.2.2.2.1
  enc x a d := Sum.inl (((a, ()), ((x.2.1.1, x.2.1.2.1, (), x.2.1.2.2.2.1, ()), (x.2.2.1.1, ()), ((), x.2.2.2.1.2.1, x.2.2.2.1.2.2.1, ()), d, ())))
  stop x d := Sum.inr ((((), ()), ((x.2.1.1, x.2.1.2.1, (), (), ()), (), (), d, ())))
abbrev delC_T : Type := VhL [rc, rc, .s (.ptr 1 0), .s (.ptr 2 0)] × OShL cdgq1 → Option ((VhL [vb] × OShL cdgq1) ⊕ (VhL [.agg []] × OShL cdgq4))
noncomputable abbrev delC_C (sp : delC_T) : Con := cq [rc, rc, .s (.ptr 1 0), .s (.ptr 2 0)] cdgq1 [vb] cdgq1 cdgq4 sp
theorem delC_g : Callable Tryz.prog 89 := ⟨Tryz.f89, body Tryz.f89, by kernel_rfl, by kernel_rfl, by kernel_rfl⟩
theorem delC_raw (sp_load : load_T) (sp_store : store_T) (sp_retire : retire_T) (sp_none : none_T) (w : Int) (r : Int) (w2 : Int) (r2 : Int) (c : Cfg) (got : List Int) (held : List Int) (k : Int) (w3 : Int) (r3 : Int) (did : List Acc) : runQ Tryz.f89 [rc, rc, .s (.ptr 1 0), .s (.ptr 2 0)] cdgq1 [vb] cdgq1 cdgq4 [(80, load_C sp_load), (75, store_C sp_store), (85, retire_C sp_retire), (74, none_C sp_none)] [] [] (((((), w, r, ()), ((), w2, r2, ()), (), (), ()), ((c, got, (), held, ()), (k, ()), ((), w3, r3, ()), did, ())) : VhL [rc, rc, .s (.ptr 1 0), .s (.ptr 2 0)] × OShL cdgq1) = ((sp_load ((((), w, r, ()), 0, ()), (c, got, (), held, ()), did, ())).bind fun val => selim val (fun val => bif val.1.1 != k then some (Sum.inl ((false, ()), (val.2.1.1, val.2.1.2.1, (), val.2.1.2.2.2.1, ()), (k, ()), ((), w3, r3, ()), val.2.2.1, ())) else (sp_load ((((), w, r, ()), 2, ()), (val.2.1.1, val.2.1.2.1, (), val.2.1.2.2.2.1, ()), val.2.2.1, ())).bind fun val => selim val (fun val => (sp_none ((((), w2, r2, ()), ()), (val.2.1.1, val.2.1.2.1, (), val.2.1.2.2.2.1, ()), val.2.2.1, ())).bind fun val_1 => selim val_1 (fun val_2 => bif val_2.1.1 then (sp_store ((((), w3, r3, ()), 3, val.1.1, ()), (val_2.2.1.1, val_2.2.1.2.1, (), val_2.2.1.2.2.2.1, ()), val_2.2.2.1, ())).bind fun val => selim val (fun val => (sp_retire ((((), w, r, ()), ()), (val.2.1.1, val.2.1.2.1, (), val.2.1.2.2.2.1, ()), val.2.2.1, ())).bind fun val => selim val (fun val => some (Sum.inl ((true, ()), (val.2.1.1, val.2.1.2.1, (), val.2.1.2.2.2.1, ()), (k, ()), ((), w3, r3, ()), val.2.2.1, ()))) fun val => some (Sum.inr (((), ()), (val.2.1.1, val.2.1.2.1, (), (), ()), (), (), val.2.2.1, ()))) fun val => some (Sum.inr (((), ()), (val.2.1.1, val.2.1.2.1, (), (), ()), (), (), val.2.2.1, ())) else (sp_store ((((), w2, r2, ()), 2, val.1.1, ()), (val_2.2.1.1, val_2.2.1.2.1, (), val_2.2.1.2.2.2.1, ()), val_2.2.2.1, ())).bind fun val => selim val (fun val => (sp_retire ((((), w, r, ()), ()), (val.2.1.1, val.2.1.2.1, (), val.2.1.2.2.2.1, ()), val.2.2.1, ())).bind fun val => selim val (fun val => some (Sum.inl ((true, ()), (val.2.1.1, val.2.1.2.1, (), val.2.1.2.2.2.1, ()), (k, ()), ((), w3, r3, ()), val.2.2.1, ()))) fun val => some (Sum.inr (((), ()), (val.2.1.1, val.2.1.2.1, (), (), ()), (), (), val.2.2.1, ()))) fun val => some (Sum.inr (((), ()), (val.2.1.1, val.2.1.2.1, (), (), ()), (), (), val.2.2.1, ()))) fun val => some (Sum.inr (((), ()), (val.2.1.1, val.2.1.2.1, (), (), ()), (), (), val.2.2.1, ()))) fun val => some (Sum.inr (((), ()), (val.2.1.1, val.2.1.2.1, (), (), ()), (), (), val.2.2.1, ()))) fun val => some (Sum.inr (((), ()), (val.2.1.1, val.2.1.2.1, (), (), ()), (), (), val.2.2.1, ()))) := by kernel_rfl
theorem delC_ok : Sound Tryz.prog gl 89 (delC_C (Ifc.spec delCI)) := by
  refine cqk (fn := Tryz.f89) (G := [(80, load_C (Ifc.spec loadI)), (75, store_C (Ifc.spec storeI)), (85, retire_C (Ifc.spec retireI)), (74, none_C (Ifc.spec noneI))]) (GOk.cons load_g load_ok (GOk.cons store_g store_ok (GOk.cons retire_g retire_ok (GOk.cons none_g none_ok (GOk.nil))))) (by kernel_rfl) (by kernel_rfl) (Lc := []) (nh := []) (noloopN (by kernel_rfl)) ?_
  rintro ⟨⟨⟨_, w, r, _⟩, ⟨_, w2, r2, _⟩, _, _, _⟩, ⟨⟨c, got, _, held, _⟩, ⟨k, _⟩, ⟨_, w3, r3, _⟩, did, _⟩⟩
  refine (delC_raw (Ifc.spec loadI) (Ifc.spec storeI) (Ifc.spec retireI) (Ifc.spec noneI) w r w2 r2 c got held k w3 r3 did).trans ?_
  show _ = outG (delCI.enc ((((), w, r, ()), ((), w2, r2, ()), (), (), ()), ((c, got, (), held, ()), (k, ()), ((), w3, r3, ()), did, ()))) (delCI.stop ((((), w, r, ()), ((), w2, r2, ()), (), (), ()), ((c, got, (), held, ()), (k, ()), ((), w3, r3, ()), did, ()))) ((delCTr w r w2 r2 c got held k w3 r3).exec got did)
  unfold delCTr
  repeat' (first | refine cond_out (fun _ => ?_) (fun _ => ?_) | (refine (retI (by with_reducible rfl)).trans ?_; try dsimp only [selim, cond_true, cond_false, Bool.not_true, Bool.not_false, one, none1, mI, loadI, storeI, retireI, noneI]) | (refine bindI rfl rfl (fun _ _ => ?_) (fun _ => rfl); try dsimp only [selim, cond_true, cond_false, Bool.not_true, Bool.not_false, one, none1, mI, loadI, storeI, retireI, noneI]) | rfl)
abbrev walkDL0vs : List Vh := [.clo 89 [.ptr 1 0, .ptr 2 0], .s (.ptr 4 0), .s (.ptr 5 0)]
abbrev walkDL0os : List OSh := [.box [.e (.st .cfg), .e (.sl .int), .own 3, .sln .int], .box [.e .int], .box [.ptr 0 0, .e .int, .e .int], .arr (.st .acc), .box [.ptr 0 0, .e .int, .e .int], .box [.ptr 0 0, .e .int, .e .int]]
noncomputable abbrev walkDL0fin : Fin := ((Fin.one 4 Tryz.f87.ntmps (.exit 0) [] [] cdgq1).or ((Fin.one 4 Tryz.f87.ntmps .ret [6] [vb] cdgq1).or (Fin.pan 4 59 (.agg []) cdgq4)))
def walkDL0Step (c : Cfg) (got : List Int) (held : List Int) (k : Int) (w3 : Int) (r3 : Int) (v17 : Int) (st : Int × Int × Int) : T ((Int × Int × Int) ⊕ (Unit ⊕ Unit)) :=
 let v14 := st.1
 let v15 := st.2.1
 let v18 := st.2.2
 bif !v18 == 0 then
 (delCTr v17 v18 v14 v15 c got held k w3 r3).bind fun x1 =>
 bif x1 then
 .ret (Sum.inr (Sum.inr (())))
 else
 (nextTr v17 v18 2 c got held).bind fun x2 =>
 .ret (Sum.inl (v17, v18, x2))
 else
 .ret (Sum.inr (Sum.inl (())))
@[reducible] def walkDL0I : Ifc (VhL walkDL0vs × OShL walkDL0os) walkDL0fin.Y where
  α := Unit ⊕ Unit
  tr x := T.loop (walkDL0Step x.2.1.1 x.2.1.2.1 x.2.1.2.2.2.1 x.2.2.1.1 x.2.2.2.1.2.1 x.2.2.2.1.2.2.1 x.2.2.2.2.2.2.1.2.1) (x.2.1.2.1.length + 10) (x.2.2.2.2.2.1.2.1, x.2.2.2.2.2.1.2.2.1, x.2.2.2.2.2.2.1.2.2.1)
  got x := x.2.1.2.1
  did x := x.2.2.2.2.1
  enc x a d := match a with | Sum.inl (b) => Sum.inl (((), ((x.2.1.1, x.2.1.2.1, (), x.2.1.2.2.2.1, ()), (x.2.2.1.1, ()), ((), x.2.2.2.1.2.1, x.2.2.2.1.2.2.1, ()), d, ()))) | Sum.inr (b) => Sum.inr (Sum.inl (((true, ()), ((x.2.1.1, x.2.1.2.1, (), x.2.1.2.2.2.1, ()), (x.2.2.1.1, ()), ((), x.2.2.2.1.2.1, x.2.2.2.1.2.2.1, ()), d, ()))))
  stop x d := Sum.inr (Sum.inr ((((), ()), ((x.2.1.1, x.2.1.2.1, (), (), ()), (), (), d, ()))))
theorem walkDL0_raw (sp_next : next_T) (sp_prop : prop_T) (sp_none : none_T) (sp_delC : delC_T) (c : Cfg) (got : List Int) (held : List Int) (k : Int) (w3 : Int) (r3 : Int) (did : List Acc) (v14 : Int) (v15 : Int) (v17 : Int) (v18 : Int) : runW 4 Tryz.f87 0 [2, 7, 8] walkDL0vs walkDL0os walkDL0fin [(103, next_C sp_next), (86, prop_C sp_prop), (74, none_C sp_none), (89, delC_C sp_delC)] [] [] (((((), (), ()), (), (), ()), ((c, got, (), held, ()), (k, ()), ((), w3, r3, ()), did, ((), v14, v15, ()), ((), v17, v18, ()), ())) : VhL walkDL0vs × OShL walkDL0os) = ((sp_none ((((), v17, v18, ()), ()), (c, got, (), held, ()), did, ())).bind fun val => selim val (fun val => bif !val.1.1 then (sp_delC ((((), v17, v18, ()), ((), v14, v15, ()), (), (), ()), (val.2.1.1, val.2.1.2.1, (), val.2.1.2.2.2.1, ()), (k, ()), ((), w3, r3, ()), val.2.2.1, ())).bind fun val => selim val (fun val => bif val.1.1 then some (Sum.inr (Sum.inr (Sum.inl ((true, ()), (val.2.1.1, val.2.1.2.1, (), val.2.1.2.2.2.1, ()), (val.2.2.1.1, ()), ((), val.2.2.2.1.2.1, val.2.2.2.1.2.2.1, ()), val.2.2.2.2.1, ())))) else (sp_next ((((), v17, v18, ()), 2, ()), (val.2.1.1, val.2.1.2.1, (), val.2.1.2.2.2.1, ()), val.2.2.2.2.1, ())).bind fun val_1 => selim val_1 (fun val_2 => some (Sum.inl ((((), (), ()), (), (), ()), (val_2.2.1.1, val_2.2.1.2.1, (), val_2.2.1.2.2.2.1, ()), (val.2.2.1.1, ()), ((), val.2.2.2.1.2.1, val.2.2.2.1.2.2.1, ()), val_2.2.2.1, ((), v17, v18, ()), ((), val_2.1.1.2.1, val_2.1.1.2.2.1, ()), ()))) fun val => some (Sum.inr (Sum.inr (Sum.inr (((), ()), (val.2.1.1, val.2.1.2.1, (), (), ()), (), (), val.2.2.1, ()))))) fun val => some (Sum.inr (Sum.inr (Sum.inr (((), ()), (val.2.1.1, val.2.1.2.1, (), (), ()), (), (), val.2.2.2.2.1, ())))) else some (Sum.inr (Sum.inl ((), (val.2.1.1, val.2.1.2.1, (), val.2.1.2.2.2.1, ()), (k, ()), ((), w3, r3, ()), val.2.2.1, ())))) fun val => some (Sum.inr (Sum.inr (Sum.inr (((), ()), (val.2.1.1, val.2.1.2.1, (), (), ()), (), (), val.2.2.1, ()))))) := by kernel_rfl
theorem walkDL0_ok : LOk Tryz.prog gl 4 (LCon.of Tryz.f87.ntmps [2, 7, 8] walkDL0vs walkDL0os walkDL0fin (Ifc.spec walkDL0I)) (getL (body Tryz.f87) 0) := by
  refine lwk (Lc := []) (nh := []) (G := [(103, next_C (Ifc.spec nextI)), (86, prop_C (Ifc.spec propI)), (74, none_C (Ifc.spec noneI)), (89, delC_C (Ifc.spec delCI))]) (GOk.cons next_g next_ok (GOk.cons prop_g prop_ok (GOk.cons none_g none_ok (GOk.cons delC_g delC_ok (GOk.nil))))) (noloopN (by kernel_rfl)) (Fin.or_ok (Fin.one_ok _ _ _ _) (Fin.or_ok (Fin.one_ok _ _ _ _) (Fin.pan_ok _ _ _))) ?_
  rintro ⟨⟨⟨_, _, _⟩, _, _, _⟩, ⟨⟨c, got, _, held, _⟩, ⟨k, _⟩, ⟨_, w3, r3, _⟩, did, ⟨_, v14, v15, _⟩, ⟨_, v17, v18, _⟩, _⟩⟩ y hy
  refine ⟨_, loopT_ok (eX := fun (st : Int × Int × Int) (d : List Acc) => (let v14 := st.1; let v15 := st.2.1; let v18 := st.2.2; ((((), (), ()), (), (), ()), ((c, got, (), held, ()), (k, ()), ((), w3, r3, ()), d, ((), v14, v15, ()), ((), v17, v18, ()), ())) : VhL walkDL0vs × OShL walkDL0os)) (body := walkDL0Step c got held k w3 r3 v17) (fun st d => ?_) _ (v14, v15, v18) did y hy⟩
  obtain ⟨v14, v15, v18⟩ := st
  refine (walkDL0_raw (Ifc.spec nextI) (Ifc.spec propI) (Ifc.spec noneI) (Ifc.spec delCI) c got held k w3 r3 d v14 v15 v17 v18).trans ?_
  unfold walkDL0Step
  repeat' (first | refine cond_out (fun _ => ?_) (fun _ => ?_) | (refine (retI (by with_reducible rfl)).trans ?_; try dsimp only [selim, cond_true, cond_false, Bool.not_true, Bool.not_false, one, none1, mI, nextI, propI, noneI, delCI]) | (refine bindI rfl rfl (fun _ _ => ?_) (fun _ => rfl); try dsimp only [selim, cond_true, cond_false, Bool.not_true, Bool.not_false, one, none1, mI, nextI, propI, noneI, delCI]) | rfl)
def walkDTr (w : Int) (r : Int) (c : Cfg) (got : List Int) (held : List Int) (k : Int) (w3 : Int) (r3 : Int) : T (Bool) :=
 (T.loop (walkDL0Step c got held k w3 r3 w) (got.length + 10) (3, 0, r)).bind fun b1 => selim b1
 (fun x1 => .ret false)
 (fun y1 => .ret true)
@[reducible] def walkDI : Ifc (VhL [pm, rc, .clo 89 [.ptr 1 0, .ptr 2 0]] × OShL cdgq1) ((VhL [vb] × OShL cdgq1) ⊕ (VhL [.agg []] × OShL cdgq4)) where
  α := Bool
  tr x := walkDTr x.1.2.1.2.1 x.1.2.1.2.2.1 x.2.1.1 x.2.1.2.1 x.2.1.2.2.2.1 x.2.2.1.1 x.2.2.2.1.2.1 x.2.2.2.1.2.2.1
  got x := x.2.1.2.1
  did x := x.2.2.2.2.1
  enc x a d := Sum.inl (((a, ()), ((x.2.1.1, x.2.1.2.1, (), x.2.1.2.2.2.1, ()), (x.2.2.1.1, ()), ((), x.2.2.2.1.2.1, x.2.2.2.1.2.2.1, ()), d, ())))
  stop x d := Sum.inr ((((), ()), ((x.2.1.1, x.2.1.2.1, (), (), ()), (), (), d, ())))
abbrev walkD_T : Type := VhL [pm, rc, .clo 89 [.ptr 1 0, .ptr 2 0]] × OShL cdgq1 → Option ((VhL [vb] × OShL cdgq1) ⊕ (VhL [.agg []] × OShL cdgq4))
noncomputable abbrev walkD_C (sp : walkD_T) : Con := cq [pm, rc, .clo 89 [.ptr 1 0, .ptr 2 0]] cdgq1 [vb] cdgq1 cdgq4 sp
theorem walkD_g : Callable Tryz.prog 87 := ⟨Tryz.f87, body Tryz.f87, by kernel_rfl, by kernel_rfl, by kernel_rfl⟩
theorem walkD_raw (sp_next : next_T) (sp_prop : prop_T) (sp_none : none_T) (sp_delC : delC_T) (sp_walkDL0 : VhL walkDL0vs × OShL walkDL0os → Option walkDL0fin.Y) (w : Int) (r : Int) (c : Cfg) (got : List Int) (held : List Int) (k : Int) (w3 : Int) (r3 : Int) (did : List Acc) : runQ Tryz.f87 [pm, rc, .clo 89 [.ptr 1 0, .ptr 2 0]] cdgq1 [vb] cdgq1 cdgq4 [(103, next_C sp_next), (86, prop_C sp_prop), (74, none_C sp_none), (89, delC_C sp_delC)] [(3, LCon.of Tryz.f87.ntmps [2, 7, 8] walkDL0vs walkDL0os walkDL0fin sp_walkDL0)] [] ((((), ((), w, r, ()), ((), (), ()), ()), ((c, got, (), held, ()), (k, ()), ((), w3, r3, ()), did, ())) : VhL [pm, rc, .clo 89 [.ptr 1 0, .ptr 2 0]] × OShL cdgq1) = ((sp_prop (((), 0, ()), (c, got, (), held, ()), did, ())).bind fun val => selim val (fun val => (sp_walkDL0 ((((), (), ()), (), (), ()), (val.2.1.1, val.2.1.2.1, (), val.2.1.2.2.2.1, ()), (k, ()), ((), w3, r3, ()), val.2.2.1, ((), val.1.1.2.1, val.1.1.2.2.1, ()), ((), w, r, ()), ())).bind fun val => selim val (fun val => some (Sum.inl ((false, ()), (val.2.1.1, val.2.1.2.1, (), val.2.1.2.2.2.1, ()), (val.2.2.1.1, ()), ((), val.2.2.2.1.2.1, val.2.2.2.1.2.2.1, ()), val.2.2.2.2.1, ()))) fun val => selim val (fun val => some (Sum.inl ((val.1.1, ()), (val.2.1.1, val.2.1.2.1, (), val.2.1.2.2.2.1, ()), (val.2.2.1.1, ()), ((), val.2.2.2.1.2.1, val.2.2.2.1.2.2.1, ()), val.2.2.2.2.1, ()))) fun val => some (Sum.inr (((), ()), (val.2.1.1, val.2.1.2.1, (), (), ()), (), (), val.2.2.2.2.1, ()))) fun val => some (Sum.inr (((), ()), (val.2.1.1, val.2.1.2.1, (), (), ()), (), (), val.2.2.1, ()))) := by kernel_rfl
theorem walkD_ok : Sound Tryz.prog gl 87 (walkD_C (Ifc.spec walkDI)) := by
  refine cqk (fn := Tryz.f87) (G := [(103, next_C (Ifc.spec nextI)), (86, prop_C (Ifc.spec propI)), (74, none_C (Ifc.spec noneI)), (89, delC_C (Ifc.spec delCI))]) (GOk.cons next_g next_ok (GOk.cons prop_g prop_ok (GOk.cons none_g none_ok (GOk.cons delC_g delC_ok (GOk.nil))))) (by kernel_rfl) (by kernel_rfl) (Lc := [(3, LCon.of Tryz.f87.ntmps [2, 7, 8] walkDL0vs walkDL0os walkDL0fin (Ifc.spec walkDL0I))]) (nh := []) (lcok (bs := [getL (body Tryz.f87) 0]) (by kernel_rfl) ⟨lone_ok (q := (3, LCon.of Tryz.f87.ntmps [2, 7, 8] walkDL0vs walkDL0os walkDL0fin (Ifc.spec walkDL0I))) (by kernel_rfl) walkDL0_ok, trivial⟩) ?_
  rintro ⟨⟨_, ⟨_, w, r, _⟩, ⟨_, _, _⟩, _⟩, ⟨⟨c, got, _, held, _⟩, ⟨k, _⟩, ⟨_, w3, r3, _⟩, did, _⟩⟩
  refine (walkD_raw (Ifc.spec nextI) (Ifc.spec propI) (Ifc.spec noneI) (Ifc.spec delCI) (Ifc.spec walkDL0I) w r c got held k w3 r3 did).trans ?_
  show _ = outG (walkDI.enc (((), ((), w, r, ()), ((), (), ()), ()), ((c, got, (), held, ()), (k, ()), ((), w3, r3, ()), did, ()))) (walkDI.stop (((), ((), w, r, ()), ((), (), ()), ()), ((c, got, (), held, ()), (k, ()), ((), w3, r3, ()), did, ()))) ((walkDTr w r c got held k w3 r3).exec got did)
  unfold walkDTr
  refine (retI rfl).trans ?_
  dsimp only [selim, cond_true, cond_false, Bool.not_true, Bool.not_false, one, none1, mI, nextI, propI, noneI, delCI, walkDL0I]
  refine bindI rfl rfl (fun b1 d1 => ?_) (fun d => rfl)
  rcases b1 with x1 | y1
  · dsimp only [selim, cond_true, cond_false, Bool.not_true, Bool.not_false, one, none1, mI, nextI, propI, noneI, delCI, walkDL0I]
    try (first | refine (cond_t rfl).trans ?_ | refine (cond_f rfl).trans ?_)
    rfl
  · dsimp only [selim, cond_true, cond_false, Bool.not_true, Bool.not_false, one, none1, mI, nextI, propI, noneI, delCI, walkDL0I]
    try (first | refine (cond_t rfl).trans ?_ | refine (cond_f rfl).trans ?_)
    rfl
def pairsCTr (w : Int) (r : Int) (w2 : Int) (r2 : Int) (c : Cfg) (got : List Int) (held : List Int) (er : Int) (id : Int) (eo : List En) (ei : List En) (pr : List Pr) : T (List Pr) :=
 (loadTr w r 0 c got held).bind fun x0 =>
 (loadTr w r 1 c got held).bind fun x1 =>
 bif decide (pr.length + [Pr.mk x0 x1].length ≤ 1000000000) then
 .ret (pr ++ [Pr.mk x0 x1])
 else
 .bot
@[reducible] def pairsCI : Ifc (VhL [rc, rc, .s (.ptr 1 0)] × OShL cdgq0) ((VhL [vb] × OShL cdgq0) ⊕ (VhL [.agg []] × OShL cdgq5)) where
  α := List Pr
  tr x := pairsCTr x.1.1.2.1 x.1.1.2.2.1 x.1.2.1.2.1 x.1.2.1.2.2.1 x.2.1.1 x.2.1.2.1 x.2.1.2.2.2.1 x.2.2.1.1 x.2.2.1.2.1 x.2.2.1.2.2.2.1 x.2.2.1.2.2.2.2.1 x.2.2.2.2.1
  got x := x.2.1.2.1
  did x := x.2.2.2.1
  enc x a d := Sum.inl (((false, ()), ((x.2.1.1, x.2.1.2.1, (), x.2.1.2.2.2.1, ()), (x.2.2.1.1, x.2.2.1.2.1, (), x.2.2.1.2.2.2.1, x.2.2.1.2.2.2.2.1, ()), d, a, ())))
  stop x d := Sum.inr ((((), ()), ((x.2.1.1, x.2.1.2.1, (), (), ()), (), d, (), ())))
abbrev pairsC_T : Type := VhL [rc, rc, .s (.ptr 1 0)] × OShL cdgq0 → Option ((VhL [vb] × OShL cdgq0) ⊕ (VhL [.agg []] × OShL cdgq5))
noncomputable abbrev pairsC_C (sp : pairsC_T) : Con := cq [rc, rc, .s (.ptr 1 0)] cdgq0 [vb] cdgq0 cdgq5 sp
theorem pairsC_g : Callable Tryz.prog 91 := ⟨Tryz.f91, body Tryz.f91, by kernel_rfl, by kernel_rfl, by kernel_rfl⟩
theorem pairsC_raw (sp_load : load_T) (w : Int) (r : Int) (w2 : Int) (r2 : Int) (c : Cfg) (got : List Int) (held : List Int) (er : Int) (id : Int) (eo : List En) (ei : List En) (did : List Acc) (pr : List Pr) : runQ Tryz.f91 [rc, rc, .s (.ptr 1 0)] cdgq0 [vb] cdgq0 cdgq5 [(80, load_C sp_load)] [] [] (((((), w, r, ()), ((), w2, r2, ()), (), ()), ((c, got, (), held, ()), (er, id, (), eo, ei, ()), did, pr, ())) : VhL [rc, rc, .s (.ptr 1 0)] × OShL cdgq0) = ((sp_load ((((), w, r, ()), 0, ()), (c, got, (), held, ()), did, ())).bind fun val => selim val (fun val => (sp_load ((((), w, r, ()), 1, ()), (val.2.1.1, val.2.1.2.1, (), val.2.1.2.2.2.1, ()), val.2.2.1, ())).bind fun val_1 => selim val_1 (fun val_2 => bif decide (pr.length + [Pr.mk val.1.1 val_2.1.1].length ≤ 1000000000) then some (Sum.inl ((false, ()), (val_2.2.1.1, val_2.2.1.2.1, (), val_2.2.1.2.2.2.1, ()), (er, id, (), eo, ei, ()), val_2.2.2.1, pr ++ [Pr.mk val.1.1 val_2.1.1], ())) else none) fun val => some (Sum.inr (((), ()), (val.2.1.1, val.2.1.2.1, (), (), ()), (), val.2.2.1, (), ()))) fun val => some (Sum.inr (((), ()), (val.2.1.1, val.2.1.2.1, (), (), ()), (), val.2.2.1, (), ()))) := by kernel_rfl
theorem pairsC_ok : Sound Tryz.prog gl 91 (pairsC_C (Ifc.spec pairsCI)) := by
  refine cqk (fn := Tryz.f91) (G := [(80, load_C (Ifc.spec loadI))]) (GOk.cons load_g load_ok (GOk.nil)) (by kernel_rfl) (by kernel_rfl) (Lc := []) (nh := []) (noloopN (by kernel_rfl)) ?_
  rintro ⟨⟨⟨_, w, r, _⟩, ⟨_, w2, r2, _⟩, _, _⟩, ⟨⟨c, got, _, held, _⟩, ⟨er, id, _, eo, ei, _⟩, did, pr, _⟩⟩
  refine (pairsC_raw (Ifc.spec loadI) w r w2 r2 c got held er id eo ei did pr).trans ?_
  show _ = outG (pairsCI.enc ((((), w, r, ()), ((), w2, r2, ()), (), ()), ((c, got, (), held, ()), (er, id, (), eo, ei, ()), did, pr, ()))) (pairsCI.stop ((((), w, r, ()), ((), w2, r2, ()), (), ()), ((c, got, (), held, ()), (er, id, (), eo, ei, ()), did, pr, ()))) ((pairsCTr w r w2 r2 c got held er id eo ei pr).exec got did)
  unfold pairsCTr
  repeat' (first | refine cond_out (fun _ => ?_) (fun _ => ?_) | (refine bindI rfl rfl (fun _ _ => ?_) (fun _ => rfl); try dsimp only [selim, cond_true, cond_false, Bool.not_true, Bool.not_false, one, none1, mI, loadI]) | rfl)
abbrev walkPL0vs : List Vh := [.clo 91 [.ptr 1 0], .s (.ptr 4 0), .s (.ptr 5 0)]
abbrev walkPL0os : List OSh := [.box [.e (.st .cfg), .e (.sl .int), .own 2, .sln .int], .box [.e .int, .e .int, .own 3, .e (.sl (.st .en)), .e (.sl (.st .en))], .arr (.st .acc), .arr (.st .pr), .box [.ptr 0 0, .e .int, .e .int], .box [.ptr 0 0, .e .int, .e .int]]
noncomputable abbrev walkPL0fin : Fin := ((Fin.one 4 Tryz.f87.ntmps (.exit 0) [] [] cdgq0).or ((Fin.one 4 Tryz.f87.ntmps .ret [6] [vb] cdgq0).or (Fin.pan 4 59 (.agg []) cdgq5)))
def walkPL0Step (c : Cfg) (got : List Int) (held : List Int) (er : Int) (id : Int) (eo : List En) (ei : List En) (v18 : Int) (st : List Pr × Int × Int × Int) : T ((List Pr × Int × Int × Int) ⊕ ((List Pr) ⊕ Unit)) :=
 let pr := st.1
 let v15 := st.2.1
 let v16 := st.2.2.1
 let v19 := st.2.2.2
 bif !v19 == 0 then
 (pairsCTr v18 v19 v15 v16 c got held er id eo ei pr).bind fun x1 =>
 (nextTr v18 v19 2 c got held).bind fun x2 =>
 .ret (Sum.inl (x1, v18, v19, x2))
 else
 .ret (Sum.inr (Sum.inl (pr)))
@[reducible] def walkPL0I : Ifc (VhL walkPL0vs × OShL walkPL0os) walkPL0fin.Y where
  α := (List Pr) ⊕ Unit
  tr x := T.loop (walkPL0Step x.2.1.1 x.2.1.2.1 x.2.1.2.2.2.1 x.2.2.1.1 x.2.2.1.2.1 x.2.2.1.2.2.2.1 x.2.2.1.2.2.2.2.1 x.2.2.2.2.2.2.1.2.1) (x.2.1.2.1.length + 10) (x.2.2.2.2.1, x.2.2.2.2.2.1.2.1, x.2.2.2.2.2.1.2.2.1, x.2.2.2.2.2.2.1.2.2.1)
  got x := x.2.1.2.1
  did x := x.2.2.2.1
  enc x a d := match a with | Sum.inl (b) => Sum.inl (((), ((x.2.1.1, x.2.1.2.1, (), x.2.1.2.2.2.1, ()), (x.2.2.1.1, x.2.2.1.2.1, (), x.2.2.1.2.2.2.1, x.2.2.1.2.2.2.2.1, ()), d, b, ()))) | Sum.inr (b) => Sum.inr (Sum.inl (((false, ()), ((x.2.1.1, x.2.1.2.1, (), x.2.1.2.2.2.1, ()), (x.2.2.1.1, x.2.2.1.2.1, (), x.2.2.1.2.2.2.1, x.2.2.1.2.2.2.2.1, ()), d, x.2.2.2.2.1, ()))))
  stop x d := Sum.inr (Sum.inr ((((), ()), ((x.2.1.1, x.2.1.2.1, (), (), ()), (), d, (), ()))))
theorem walkPL0_raw (sp_next : next_T) (sp_prop : prop_T) (sp_none : none_T) (sp_pairsC : pairsC_T) (c : Cfg) (got : List Int) (held : List Int) (er : Int) (id : Int) (eo : List En) (ei : List En) (did : List Acc) (pr : List Pr) (v15 : Int) (v16 : Int) (v18 : Int) (v19 : Int) : runW 4 Tryz.f87 0 [2, 7, 8] walkPL0vs walkPL0os walkPL0fin [(103, next_C sp_next), (86, prop_C sp_prop), (74, none_C sp_none), (91, pairsC_C sp_pairsC)] [] [] (((((), ()), (), (), ()), ((c, got, (), held, ()), (er, id, (), eo, ei, ()), did, pr, ((), v15, v16, ()), ((), v18, v19, ()), ())) : VhL walkPL0vs × OShL walkPL0os) = ((sp_none ((((), v18, v19, ()), ()), (c, got, (), held, ()), did, ())).bind fun val => selim val (fun val => bif !val.1.1 then (sp_pairsC ((((), v18, v19, ()), ((), v15, v16, ()), (), ()), (val.2.1.1, val.2.1.2.1, (), val.2.1.2.2.2.1, ()), (er, id, (), eo, ei, ()), val.2.2.1, pr, ())).bind fun val => selim val (fun val => bif val.1.1 then some (Sum.inr (Sum.inr (Sum.inl ((true, ()), (val.2.1.1, val.2.1.2.1, (), val.2.1.2.2.2.1, ()), (val.2.2.1.1, val.2.2.1.2.1, (), val.2.2.1.2.2.2.1, val.2.2.1.2.2.2.2.1, ()), val.2.2.2.1, val.2.2.2.2.1, ())))) else (sp_next ((((), v18, v19, ()), 2, ()), (val.2.1.1, val.2.1.2.1, (), val.2.1.2.2.2.1, ()), val.2.2.2.1, ())).bind fun val_1 => selim val_1 (fun val_2 => some (Sum.inl ((((), ()), (), (), ()), (val_2.2.1.1, val_2.2.1.2.1, (), val_2.2.1.2.2.2.1, ()), (val.2.2.1.1, val.2.2.1.2.1, (), val.2.2.1.2.2.2.1, val.2.2.1.2.2.2.2.1, ()), val_2.2.2.1, val.2.2.2.2.1, ((), v18, v19, ()), ((), val_2.1.1.2.1, val_2.1.1.2.2.1, ()), ()))) fun val => some (Sum.inr (Sum.inr (Sum.inr (((), ()), (val.2.1.1, val.2.1.2.1, (), (), ()), (), val.2.2.1, (), ()))))) fun val => some (Sum.inr (Sum.inr (Sum.inr (((), ()), (val.2.1.1, val.2.1.2.1, (), (), ()), (), val.2.2.2.1, (), ())))) else some (Sum.inr (Sum.inl ((), (val.2.1.1, val.2.1.2.1, (), val.2.1.2.2.2.1, ()), (er, id, (), eo, ei, ()), val.2.2.1, pr, ())))) fun val => some (Sum.inr (Sum.inr (Sum.inr (((), ()), (val.2.1.1, val.2.1.2.1, (), (), ()), (), val.2.2.1, (), ()))))) := by kernel_rfl
theorem walkPL0_ok : LOk Tryz.prog gl 4 (LCon.of Tryz.f87.ntmps [2, 7, 8] walkPL0vs walkPL0os walkPL0fin (Ifc.spec walkPL0I)) (getL (body Tryz.f87) 0) := by
  refine lwk (Lc := []) (nh := []) (G := [(103, next_C (Ifc.spec nextI)), (86, prop_C (Ifc.spec propI)), (74, none_C (Ifc.spec noneI)), (91, pairsC_C (Ifc.spec pairsCI))]) (GOk.cons next_g next_ok (GOk.cons prop_g prop_ok (GOk.cons none_g none_ok (GOk.cons pairsC_g pairsC_ok (GOk.nil))))) (noloopN (by kernel_rfl)) (Fin.or_ok (Fin.one_ok _ _ _ _) (Fin.or_ok (Fin.one_ok _ _ _ _) (Fin.pan_ok _ _ _))) ?_
  rintro ⟨⟨⟨_, _⟩, _, _, _⟩, ⟨⟨c, got, _, held, _⟩, ⟨er, id, _, eo, ei, _⟩, did, pr, ⟨_, v15, v16, _⟩, ⟨_, v18, v19, _⟩, _⟩⟩ y hy
  refine ⟨_, loopT_ok (eX := fun (st : List Pr × Int × Int × Int) (d : List Acc) => (let pr := st.1; let v15 := st.2.1; let v16 := st.2.2.1; let v19 := st.2.2.2; ((((), ()), (), (), ()), ((c, got, (), held, ()), (er, id, (), eo, ei, ()), d, pr, ((), v15, v16, ()), ((), v18, v19, ()), ())) : VhL walkPL0vs × OShL walkPL0os)) (body := walkPL0Step c got held er id eo ei v18) (fun st d => ?_) _ (pr, v15, v16, v19) did y hy⟩
  obtain ⟨pr, v15, v16, v19⟩ := st
  refine (walkPL0_raw (Ifc.spec nextI) (Ifc.spec propI) (Ifc.spec noneI) (Ifc.spec pairsCI) c got held er id eo ei d pr v15 v16 v18 v19).trans ?_
  unfold walkPL0Step
  repeat' (first | refine cond_out (fun _ => ?_) (fun _ => ?_) | (refine (retI (by with_reducible rfl)).trans ?_; try dsimp only [selim, cond_true, cond_false, Bool.not_true, Bool.not_false, one, none1, mI, nextI, propI, noneI, pairsCI]) | (refine bindI rfl rfl (fun _ _ => ?_) (fun _ => rfl); try dsimp only [selim, cond_true, cond_false, Bool.not_true, Bool.not_false, one, none1, mI, nextI, propI, noneI, pairsCI]) | rfl)
def walkPTr (w : Int) (r : Int) (c : Cfg) (got : List Int) (held : List Int) (er : Int) (id : Int) (eo : List En) (ei : List En) (pr : List Pr) : T (List Pr) :=
 (T.loop (walkPL0Step c got held er id eo ei w) (got.length + 10) (pr, 3, 0, r)).bind fun b1 => selim b1
 (fun x1 => .ret x1)
 (fun y1 => .ret pr)
@[reducible] def walkPI : Ifc (VhL [pm, rc, .clo 91 [.ptr 1 0]] × OShL cdgq0) ((VhL [vb] × OShL cdgq0) ⊕ (VhL [.agg []] × OShL cdgq5)) where
  α := List Pr
  tr x := walkPTr x.1.2.1.2.1 x.1.2.1.2.2.1 x.2.1.1 x.2.1.2.1 x.2.1.2.2.2.1 x.2.2.1.1 x.2.2.1.2.1 x.2.2.1.2.2.2.1 x.2.2.1.2.2.2.2.1 x.2.2.2.2.1
  got x := x.2.1.2.1
  did x := x.2.2.2.1
  enc x a d := Sum.inl (((false, ()), ((x.2.1.1, x.2.1.2.1, (), x.2.1.2.2.2.1, ()), (x.2.2.1.1, x.2.2.1.2.1, (), x.2.2.1.2.2.2.1, x.2.2.1.2.2.2.2.1, ()), d, a, ())))
  stop x d := Sum.inr ((((), ()), ((x.2.1.1, x.2.1.2.1, (), (), ()), (), d, (), ())))
abbrev walkP_T : Type := VhL [pm, rc, .clo 91 [.ptr 1 0]] × OShL cdgq0 → Option ((VhL [vb] × OShL cdgq0) ⊕ (VhL [.agg []] × OShL cdgq5))
noncomputable abbrev walkP_C (sp : walkP_T) : Con := cq [pm, rc, .clo 91 [.ptr 1 0]] cdgq0 [vb] cdgq0 cdgq5 sp
theorem walkP_g : Callable Tryz.prog 87 := ⟨Tryz.f87, body Tryz.f87, by kernel_rfl, by kernel_rfl, by kernel_rfl⟩
theorem walkP_raw (sp_next : next_T) (sp_prop : prop_T) (sp_none : none_T) (sp_pairsC : pairsC_T) (sp_walkPL0 : VhL walkPL0vs × OShL walkPL0os → Option walkPL0fin.Y) (w : Int) (r : Int) (c : Cfg) (got : List Int) (held : List Int) (er : Int) (id : Int) (eo : List En) (ei : List En) (did : List Acc) (pr : List Pr) : runQ Tryz.f87 [pm, rc, .clo 91 [.ptr 1 0]] cdgq0 [vb] cdgq0 cdgq5 [(103, next_C sp_next), (86, prop_C sp_prop), (74, none_C sp_none), (91, pairsC_C sp_pairsC)] [(3, LCon.of Tryz.f87.ntmps [2, 7, 8] walkPL0vs walkPL0os walkPL0fin sp_walkPL0)] [] ((((), ((), w, r, ()), ((), ()), ()), ((c, got, (), held, ()), (er, id, (), eo, ei, ()), did, pr, ())) : VhL [pm, rc, .clo 91 [.ptr 1 0]] × OShL cdgq0) = ((sp_prop (((), 0, ()), (c, got, (), held, ()), did, ())).bind fun val => selim val (fun val => (sp_walkPL0 ((((), ()), (), (), ()), (val.2.1.1, val.2.1.2.1, (), val.2.1.2.2.2.1, ()), (er, id, (), eo, ei, ()), val.2.2.1, pr, ((), val.1.1.2.1, val.1.1.2.2.1, ()), ((), w, r, ()), ())).bind fun val => selim val (fun val => some (Sum.inl ((false, ()), (val.2.1.1, val.2.1.2.1, (), val.2.1.2.2.2.1, ()), (val.2.2.1.1, val.2.2.1.2.1, (), val.2.2.1.2.2.2.1, val.2.2.1.2.2.2.2.1, ()), val.2.2.2.1, val.2.2.2.2.1, ()))) fun val => selim val (fun val => some (Sum.inl ((val.1.1, ()), (val.2.1.1, val.2.1.2.1, (), val.2.1.2.2.2.1, ()), (val.2.2.1.1, val.2.2.1.2.1, (), val.2.2.1.2.2.2.1, val.2.2.1.2.2.2.2.1, ()), val.2.2.2.1, val.2.2.2.2.1, ()))) fun val => some (Sum.inr (((), ()), (val.2.1.1, val.2.1.2.1, (), (), ()), (), val.2.2.2.1, (), ()))) fun val => some (Sum.inr (((), ()), (val.2.1.1, val.2.1.2.1, (), (), ()), (), val.2.2.1, (), ()))) := by kernel_rfl
theorem walkP_ok : Sound Tryz.prog gl 87 (walkP_C (Ifc.spec walkPI)) := by
  refine cqk (fn := Tryz.f87) (G := [(103, next_C (Ifc.spec nextI)), (86, prop_C (Ifc.spec propI)), (74, none_C (Ifc.spec noneI)), (91, pairsC_C (Ifc.spec pairsCI))]) (GOk.cons next_g next_ok (GOk.cons prop_g prop_ok (GOk.cons none_g none_ok (GOk.cons pairsC_g pairsC_ok (GOk.nil))))) (by kernel_rfl) (by kernel_rfl) (Lc := [(3, LCon.of Tryz.f87.ntmps [2, 7, 8] walkPL0vs walkPL0os walkPL0fin (Ifc.spec walkPL0I))]) (nh := []) (lcok (bs := [getL (body Tryz.f87) 0]) (by kernel_rfl) ⟨lone_ok (q := (3, LCon.of Tryz.f87.ntmps [2, 7, 8] walkPL0vs walkPL0os walkPL0fin (Ifc.spec walkPL0I))) (by kernel_rfl) walkPL0_ok, trivial⟩) ?_
  rintro ⟨⟨_, ⟨_, w, r, _⟩, ⟨_, _⟩, _⟩, ⟨⟨c, got, _, held, _⟩, ⟨er, id, _, eo, ei, _⟩, did, pr, _⟩⟩
  refine (walkP_raw (Ifc.spec nextI) (Ifc.spec propI) (Ifc.spec noneI) (Ifc.spec pairsCI) (Ifc.spec walkPL0I) w r c got held er id eo ei did pr).trans ?_
  show _ = outG (walkPI.enc (((), ((), w, r, ()), ((), ()), ()), ((c, got, (), held, ()), (er, id, (), eo, ei, ()), did, pr, ()))) (walkPI.stop (((), ((), w, r, ()), ((), ()), ()), ((c, got, (), held, ()), (er, id, (), eo, ei, ()), did, pr, ()))) ((walkPTr w r c got held er id eo ei pr).exec got did)
  unfold walkPTr
  refine (retI rfl).trans ?_
  dsimp only [selim, cond_true, cond_false, Bool.not_true, Bool.not_false, one, none1, mI, nextI, propI, noneI, pairsCI, walkPL0I]
  refine bindI rfl rfl (fun b1 d1 => ?_) (fun d => rfl)
  rcases b1 with x1 | y1
  · dsimp only [selim, cond_true, cond_false, Bool.not_true, Bool.not_false, one, none1, mI, nextI, propI, noneI, pairsCI, walkPL0I]
    try (first | refine (cond_t rfl).trans ?_ | refine (cond_f rfl).trans ?_)
    rfl
  · dsimp only [selim, cond_true, cond_false, Bool.not_true, Bool.not_false, one, none1, mI, nextI, propI, noneI, pairsCI, walkPL0I]
    try (first | refine (cond_t rfl).trans ?_ | refine (cond_f rfl).trans ?_)
    rfl
def fuseCTr (w : Int) (r : Int) (w2 : Int) (r2 : Int) (c : Cfg) (got : List Int) (held : List Int) (k : Int) : T (Bool) :=
 (loadTr w r 0 c got held).bind fun x0 =>
 .ret (x0 == k)
@[reducible] def fuseCI : Ifc (VhL [rc, rc, .s (.ptr 1 0)] × OShL cdgq3) ((VhL [vb] × OShL cdgq3) ⊕ (VhL [.agg []] × OShL cdgq6)) where
  α := Bool
  tr x := fuseCTr x.1.1.2.1 x.1.1.2.2.1 x.1.2.1.2.1 x.1.2.1.2.2.1 x.2.1.1 x.2.1.2.1 x.2.1.2.2.2.1 x.2.2.1.1
  got x := x.2.1.2.1
  did x := x.2.2.2.1
  enc x a d := Sum.inl (((a, ()), ((x.2.1.1, x.2.1.2.1, (), x.2.1.2.2.2.1, ()), (x.2.2.1.1, ()), d, ())))
  stop x d := Sum.inr ((((), ()), ((x.2.1.1, x.2.1.2.1, (), (), ()), (), d, ())))
abbrev fuseC_T : Type := VhL [rc, rc, .s (.ptr 1 0)] × OShL cdgq3 → Option ((VhL [vb] × OShL cdgq3) ⊕ (VhL [.agg []] × OShL cdgq6))
noncomputable abbrev fuseC_C (sp : fuseC_T) : Con := cq [rc, rc, .s (.ptr 1 0)] cdgq3 [vb] cdgq3 cdgq6 sp
theorem fuseC_g : Callable Tryz.prog 108 := ⟨Tryz.f108, body Tryz.f108, by kernel_rfl, by kernel_rfl, by kernel_rfl⟩
theorem fuseC_raw (sp_load : load_T) (w : Int) (r : Int) (w2 : Int) (r2 : Int) (c : Cfg) (got : List Int) (held : List Int) (k : Int) (did : List Acc) : runQ Tryz.f108 [rc, rc, .s (.ptr 1 0)] cdgq3 [vb] cdgq3 cdgq6 [(80, load_C sp_load)] [] [] (((((), w, r, ()), ((), w2, r2, ()), (), ()), ((c, got, (), held, ()), (k, ()), did, ())) : VhL [rc, rc, .s (.ptr 1 0)] × OShL cdgq3) = ((sp_load ((((), w, r, ()), 0, ()), (c, got, (), held, ()), did, ())).bind fun val => selim val (fun val => some (Sum.inl ((val.1.1 == k, ()), (val.2.1.1, val.2.1.2.1, (), val.2.1.2.2.2.1, ()), (k, ()), val.2.2.1, ()))) fun val => some (Sum.inr (((), ()), (val.2.1.1, val.2.1.2.1, (), (), ()), (), val.2.2.1, ()))) := by kernel_rfl
theorem fuseC_ok : Sound Tryz.prog gl 108 (fuseC_C (Ifc.spec fuseCI)) := by
  refine cqk (fn := Tryz.f108) (G := [(80, load_C (Ifc.spec loadI))]) (GOk.cons load_g load_ok (GOk.nil)) (by kernel_rfl) (by kernel_rfl) (Lc := []) (nh := []) (noloopN (by kernel_rfl)) ?_
  rintro ⟨⟨⟨_, w, r, _⟩, ⟨_, w2, r2, _⟩, _, _⟩, ⟨⟨c, got, _, held, _⟩, ⟨k, _⟩, did, _⟩⟩
  refine (fuseC_raw (Ifc.spec loadI) w r w2 r2 c got held k did).trans ?_
  show _ = outG (fuseCI.enc ((((), w, r, ()), ((), w2, r2, ()), (), ()), ((c, got, (), held, ()), (k, ()), did, ()))) (fuseCI.stop ((((), w, r, ()), ((), w2, r2, ()), (), ()), ((c, got, (), held, ()), (k, ()), did, ()))) ((fuseCTr w r w2 r2 c got held k).exec got did)
  unfold fuseCTr
  repeat' (first | (refine bindI rfl rfl (fun _ _ => ?_) (fun _ => rfl); try dsimp only [selim, cond_true, cond_false, Bool.not_true, Bool.not_false, one, none1, mI, loadI]) | rfl)
abbrev walkFL0vs : List Vh := [.clo 108 [.ptr 1 0], .s (.ptr 3 0), .s (.ptr 4 0)]
abbrev walkFL0os : List OSh := [.box [.e (.st .cfg), .e (.sl .int), .own 2, .sln .int], .box [.e .int], .arr (.st .acc), .box [.ptr 0 0, .e .int, .e .int], .box [.ptr 0 0, .e .int, .e .int]]
noncomputable abbrev walkFL0fin : Fin := ((Fin.one 3 Tryz.f87.ntmps (.exit 0) [] [] cdgq3).or ((Fin.one 3 Tryz.f87.ntmps .ret [6] [vb] cdgq3).or (Fin.pan 3 59 (.agg []) cdgq6)))
def walkFL0Step (c : Cfg) (got : List Int) (held : List Int) (k : Int) (v13 : Int) (st : Int × Int × Int) : T ((Int × Int × Int) ⊕ (Unit ⊕ Unit)) :=
 let v10 := st.1
 let v11 := st.2.1
 let v14 := st.2.2
 bif !v14 == 0 then
 (fuseCTr v13 v14 v10 v11 c got held k).bind fun x1 =>
 bif x1 then
 .ret (Sum.inr (Sum.inr (())))
 else
 (nextTr v13 v14 2 c got held).bind fun x2 =>
 .ret (Sum.inl (v13, v14, x2))
 else
 .ret (Sum.inr (Sum.inl (())))
@[reducible] def walkFL0I : Ifc (VhL walkFL0vs × OShL walkFL0os) walkFL0fin.Y where
  α := Unit ⊕ Unit
  tr x := T.loop (walkFL0Step x.2.1.1 x.2.1.2.1 x.2.1.2.2.2.1 x.2.2.1.1 x.2.2.2.2.2.1.2.1) (x.2.1.2.1.length + 10) (x.2.2.2.2.1.2.1, x.2.2.2.2.1.2.2.1, x.2.2.2.2.2.1.2.2.1)
  got x := x.2.1.2.1
  did x := x.2.2.2.1
  enc x a d := match a with | Sum.inl (b) => Sum.inl (((), ((x.2.1.1, x.2.1.2.1, (), x.2.1.2.2.2.1, ()), (x.2.2.1.1, ()), d, ()))) | Sum.inr (b) => Sum.inr (Sum.inl (((true, ()), ((x.2.1.1, x.2.1.2.1, (), x.2.1.2.2.2.1, ()), (x.2.2.1.1, ()), d, ()))))
  stop x d := Sum.inr (Sum.inr ((((), ()), ((x.2.1.1, x.2.1.2.1, (), (), ()), (), d, ()))))
theorem walkFL0_raw (sp_next : next_T) (sp_prop : prop_T) (sp_none : none_T) (sp_fuseC : fuseC_T) (c : Cfg) (got : List Int) (held : List Int) (k : Int) (did : List Acc) (v10 : Int) (v11 : Int) (v13 : Int) (v14 : Int) : runW 3 Tryz.f87 0 [2, 7, 8] walkFL0vs walkFL0os walkFL0fin [(103, next_C sp_next), (86, prop_C sp_prop), (74, none_C sp_none), (108, fuseC_C sp_fuseC)] [] [] (((((), ()), (), (), ()), ((c, got, (), held, ()), (k, ()), did, ((), v10, v11, ()), ((), v13, v14, ()), ())) : VhL walkFL0vs × OShL walkFL0os) = ((sp_none ((((), v13, v14, ()), ()), (c, got, (), held, ()), did, ())).bind fun val => selim val (fun val => bif !val.1.1 then (sp_fuseC ((((), v13, v14, ()), ((), v10, v11, ()), (), ()), (val.2.1.1, val.2.1.2.1, (), val.2.1.2.2.2.1, ()), (k, ()), val.2.2.1, ())).bind fun val => selim val (fun val => bif val.1.1 then some (Sum.inr (Sum.inr (Sum.inl ((true, ()), (val.2.1.1, val.2.1.2.1, (), val.2.1.2.2.2.1, ()), (val.2.2.1.1, ()), val.2.2.2.1, ())))) else (sp_next ((((), v13, v14, ()), 2, ()), (val.2.1.1, val.2.1.2.1, (), val.2.1.2.2.2.1, ()), val.2.2.2.1, ())).bind fun val_1 => selim val_1 (fun val_2 => some (Sum.inl ((((), ()), (), (), ()), (val_2.2.1.1, val_2.2.1.2.1, (), val_2.2.1.2.2.2.1, ()), (val.2.2.1.1, ()), val_2.2.2.1, ((), v13, v14, ()), ((), val_2.1.1.2.1, val_2.1.1.2.2.1, ()), ()))) fun val => some (Sum.inr (Sum.inr (Sum.inr (((), ()), (val.2.1.1, val.2.1.2.1, (), (), ()), (), val.2.2.1, ()))))) fun val => some (Sum.inr (Sum.inr (Sum.inr (((), ()), (val.2.1.1, val.2.1.2.1, (), (), ()), (), val.2.2.2.1, ())))) else some (Sum.inr (Sum.inl ((), (val.2.1.1, val.2.1.2.1, (), val.2.1.2.2.2.1, ()), (k, ()), val.2.2.1, ())))) fun val => some (Sum.inr (Sum.inr (Sum.inr (((), ()), (val.2.1.1, val.2.1.2.1, (), (), ()), (), val.2.2.1, ()))))) := by kernel_rfl
theorem walkFL0_ok : LOk Tryz.prog gl 3 (LCon.of Tryz.f87.ntmps [2, 7, 8] walkFL0vs walkFL0os walkFL0fin (Ifc.spec walkFL0I)) (getL (body Tryz.f87) 0) := by
  refine lwk (Lc := []) (nh := []) (G := [(103, next_C (Ifc.spec nextI)), (86, prop_C (Ifc.spec propI)), (74, none_C (Ifc.spec noneI)), (108, fuseC_C (Ifc.spec fuseCI))]) (GOk.cons next_g next_ok (GOk.cons prop_g prop_ok (GOk.cons none_g none_ok (GOk.cons fuseC_g fuseC_ok (GOk.nil))))) (noloopN (by kernel_rfl)) (Fin.or_ok (Fin.one_ok _ _ _ _) (Fin.or_ok (Fin.one_ok _ _ _ _) (Fin.pan_ok _ _ _))) ?_
  rintro ⟨⟨⟨_, _⟩, _, _, _⟩, ⟨⟨c, got, _, held, _⟩, ⟨k, _⟩, did, ⟨_, v10, v11, _⟩, ⟨_, v13, v14, _⟩, _⟩⟩ y hy
  refine ⟨_, loopT_ok (eX := fun (st : Int × Int × Int) (d : List Acc) => (let v10 := st.1; let v11 := st.2.1; let v14 := st.2.2; ((((), ()), (), (), ()), ((c, got, (), held, ()), (k, ()), d, ((), v10, v11, ()), ((), v13, v14, ()), ())) : VhL walkFL0vs × OShL walkFL0os)) (body := walkFL0Step c got held k v13) (fun st d => ?_) _ (v10, v11, v14) did y hy⟩
  obtain ⟨v10, v11, v14⟩ := st
  refine (walkFL0_raw (Ifc.spec nextI) (Ifc.spec propI) (Ifc.spec noneI) (Ifc.spec fuseCI) c got held k d v10 v11 v13 v14).trans ?_
  unfold walkFL0Step
  repeat' (first | refine cond_out (fun _ => ?_) (fun _ => ?_) | (refine (retI (by with_reducible rfl)).trans ?_; try dsimp only [selim, cond_true, cond_false, Bool.not_true, Bool.not_false, one, none1, mI, nextI, propI, noneI, fuseCI]) | (refine bindI rfl rfl (fun _ _ => ?_) (fun _ => rfl); try dsimp only [selim, cond_true, cond_false, Bool.not_true, Bool.not_false, one, none1, mI, nextI, propI, noneI, fuseCI]) | rfl)
def walkFTr (w : Int) (r : Int) (c : Cfg) (got : List Int) (held : List Int) (k : Int) : T (Bool) :=
 (T.loop (walkFL0Step c got held k w) (got.length + 10) (3, 0, r)).bind fun b1 => selim b1
 (fun x1 => .ret false)
 (fun y1 => .ret true)
@[reducible] def walkFI : Ifc (VhL [pm, rc, .clo 108 [.ptr 1 0]] × OShL cdgq3) ((VhL [vb] × OShL cdgq3) ⊕ (VhL [.agg []] × OShL cdgq6)) where
  α := Bool
  tr x := walkFTr x.1.2.1.2.1 x.1.2.1.2.2.1 x.2.1.1 x.2.1.2.1 x.2.1.2.2.2.1 x.2.2.1.1
  got x := x.2.1.2.1
  did x := x.2.2.2.1
  enc x a d := Sum.inl (((a, ()), ((x.2.1.1, x.2.1.2.1, (), x.2.1.2.2.2.1, ()), (x.2.2.1.1, ()), d, ())))
  stop x d := Sum.inr ((((), ()), ((x.2.1.1, x.2.1.2.1, (), (), ()), (), d, ())))
abbrev walkF_T : Type := VhL [pm, rc, .clo 108 [.ptr 1 0]] × OShL cdgq3 → Option ((VhL [vb] × OShL cdgq3) ⊕ (VhL [.agg []] × OShL cdgq6))
noncomputable abbrev walkF_C (sp : walkF_T) : Con := cq [pm, rc, .clo 108 [.ptr 1 0]] cdgq3 [vb] cdgq3 cdgq6 sp
theorem walkF_g : Callable Tryz.prog 87 := ⟨Tryz.f87, body Tryz.f87, by kernel_rfl, by kernel_rfl, by kernel_rfl⟩
theorem walkF_raw (sp_next : next_T) (sp_prop : prop_T) (sp_none : none_T) (sp_fuseC : fuseC_T) (sp_walkFL0 : VhL walkFL0vs × OShL walkFL0os → Option walkFL0fin.Y) (w : Int) (r : Int) (c : Cfg) (got : List Int) (held : List Int) (k : Int) (did : List Acc) : runQ Tryz.f87 [pm, rc, .clo 108 [.ptr 1 0]] cdgq3 [vb] cdgq3 cdgq6 [(103, next_C sp_next), (86, prop_C sp_prop), (74, none_C sp_none), (108, fuseC_C sp_fuseC)] [(3, LCon.of Tryz.f87.ntmps [2, 7, 8] walkFL0vs walkFL0os walkFL0fin sp_walkFL0)] [] ((((), ((), w, r, ()), ((), ()), ()), ((c, got, (), held, ()), (k, ()), did, ())) : VhL [pm, rc, .clo 108 [.ptr 1 0]] × OShL cdgq3) = ((sp_prop (((), 0, ()), (c, got, (), held, ()), did, ())).bind fun val => selim val (fun val => (sp_walkFL0 ((((), ()), (), (), ()), (val.2.1.1, val.2.1.2.1, (), val.2.1.2.2.2.1, ()), (k, ()), val.2.2.1, ((), val.1.1.2.1, val.1.1.2.2.1, ()), ((), w, r, ()), ())).bind fun val => selim val (fun val => some (Sum.inl ((false, ()), (val.2.1.1, val.2.1.2.1, (), val.2.1.2.2.2.1, ()), (val.2.2.1.1, ()), val.2.2.2.1, ()))) fun val => selim val (fun val => some (Sum.inl ((val.1.1, ()), (val.2.1.1, val.2.1.2.1, (), val.2.1.2.2.2.1, ()), (val.2.2.1.1, ()), val.2.2.2.1, ()))) fun val => some (Sum.inr (((), ()), (val.2.1.1, val.2.1.2.1, (), (), ()), (), val.2.2.2.1, ()))) fun val => some (Sum.inr (((), ()), (val.2.1.1, val.2.1.2.1, (), (), ()), (), val.2.2.1, ()))) := by kernel_rfl
theorem walkF_ok : Sound Tryz.prog gl 87 (walkF_C (Ifc.spec walkFI)) := by
  refine cqk (fn := Tryz.f87) (G := [(103, next_C (Ifc.spec nextI)), (86, prop_C (Ifc.spec propI)), (74, none_C (Ifc.spec noneI)), (108, fuseC_C (Ifc.spec fuseCI))]) (GOk.cons next_g next_ok (GOk.cons prop_g prop_ok (GOk.cons none_g none_ok (GOk.cons fuseC_g fuseC_ok (GOk.nil))))) (by kernel_rfl) (by kernel_rfl) (Lc := [(3, LCon.of Tryz.f87.ntmps [2, 7, 8] walkFL0vs walkFL0os walkFL0fin (Ifc.spec walkFL0I))]) (nh := []) (lcok (bs := [getL (body Tryz.f87) 0]) (by kernel_rfl) ⟨lone_ok (q := (3, LCon.of Tryz.f87.ntmps [2, 7, 8] walkFL0vs walkFL0os walkFL0fin (Ifc.spec walkFL0I))) (by kernel_rfl) walkFL0_ok, trivial⟩) ?_
  rintro ⟨⟨_, ⟨_, w, r, _⟩, ⟨_, _⟩, _⟩, ⟨⟨c, got, _, held, _⟩, ⟨k, _⟩, did, _⟩⟩
  refine (walkF_raw (Ifc.spec nextI) (Ifc.spec propI) (Ifc.spec noneI) (Ifc.spec fuseCI) (Ifc.spec walkFL0I) w r c got held k did).trans ?_
  show _ = outG (walkFI.enc (((), ((), w, r, ()), ((), ()), ()), ((c, got, (), held, ()), (k, ()), did, ()))) (walkFI.stop (((), ((), w, r, ()), ((), ()), ()), ((c, got, (), held, ()), (k, ()), did, ()))) ((walkFTr w r c got held k).exec got did)
  unfold walkFTr
  refine (retI rfl).trans ?_
  dsimp only [selim, cond_true, cond_false, Bool.not_true, Bool.not_false, one, none1, mI, nextI, propI, noneI, fuseCI, walkFL0I]
  refine bindI rfl rfl (fun b1 d1 => ?_) (fun d => rfl)
  rcases b1 with x1 | y1
  · dsimp only [selim, cond_true, cond_false, Bool.not_true, Bool.not_false, one, none1, mI, nextI, propI, noneI, fuseCI, walkFL0I]
    try (first | refine (cond_t rfl).trans ?_ | refine (cond_f rfl).trans ?_)
    rfl
  · dsimp only [selim, cond_true, cond_false, Bool.not_true, Bool.not_false, one, none1, mI, nextI, propI, noneI, fuseCI, walkFL0I]
    try (first | refine (cond_t rfl).trans ?_ | refine (cond_f rfl).trans ?_)
    rfl
end Go.Ax.Cd
