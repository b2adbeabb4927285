/- The package code by contracts (printed by wip/tools/con3.py). -/
import Derived.Test.YteoeolfcpmalfaaGreatDoorQ26
import Derived.Test.YteoeolfcpmalfaaGreatDoorQ27
import Derived.Test.YteoeolfcpmalfaaGreatDoorQ28
import Derived.Test.YteoeolfcpmalfaaGreatDoorQ29
namespace Go.Ax.Cd
open Go.Proofs
set_option linter.unusedVariables false
set_option maxRecDepth 100000
abbrev cdj3q0 : List OSh := [.box [.e (.st .cfg), .e (.sl .int), .own 1, .sln .int], .arr (.st .acc), .box [.e (.st .res)]]
def pairsTr (w : Int) (r : Int) (c : Cfg) (got : List Int) (held : List Int) : T (Res) :=
 (loadTr w r 3 c got held).bind fun x0 =>
 (walkPTr 3 x0 c got held 0 0 [] [] []).bind fun x2 =>
 (T.gret (sortG x2.length) ()).bind fun _ =>
 .ret (Res.mk 0 0 (sortPr x2) [] [])
@[reducible] def pairsI : Ifc (VhL [pm, rc] × OShL mach) ((VhL [.s (.e (.st .res))] × OShL mach) ⊕ (VhL [.agg []] × OShL machP)) where
  α := Res
  tr x := pairsTr x.1.2.1.2.1 x.1.2.1.2.2.1 x.2.1.1 x.2.1.2.1 x.2.1.2.2.2.1
  got x := x.2.1.2.1
  did x := x.2.2.1
  enc x a d := Sum.inl (((a, ()), ((x.2.1.1, x.2.1.2.1, (), x.2.1.2.2.2.1, ()), d, ())))
  stop x d := Sum.inr ((((), ()), ((x.2.1.1, x.2.1.2.1, (), (), ()), d, ())))
abbrev pairs_T : Type := VhL [pm, rc] × OShL mach → Option ((VhL [.s (.e (.st .res))] × OShL mach) ⊕ (VhL [.agg []] × OShL machP))
noncomputable abbrev pairs_C (sp : pairs_T) : Con := cq [pm, rc] mach [.s (.e (.st .res))] mach machP sp
theorem pairs_g : Callable Tryz.prog 47 := ⟨Tryz.f47, body Tryz.f47, by kernel_rfl, by kernel_rfl, by kernel_rfl⟩
theorem pairs_raw (sp_load : load_T) (sp_prop : prop_T) (sp_walkP : walkP_T) (sp_stabPr : stabPr_T) (w : Int) (r : Int) (c : Cfg) (got : List Int) (held : List Int) (did : List Acc) : runQ Tryz.f47 [pm, rc] mach [.s (.e (.st .res))] mach machP [(80, load_C sp_load), (86, prop_C sp_prop), (87, walkP_C sp_walkP), (92, stabPr_C sp_stabPr)] [] [(0, [(4, some 2, (.st .pr))])] ((((), ((), w, r, ()), ()), ((c, got, (), held, ()), did, ())) : VhL [pm, rc] × OShL mach) = ((sp_load ((((), w, r, ()), 3, ()), (c, got, (), held, ()), did, ())).bind fun val => selim val (fun val => (sp_prop (((), val.1.1, ()), (val.2.1.1, val.2.1.2.1, (), val.2.1.2.2.2.1, ()), val.2.2.1, ())).bind fun val => selim val (fun val => (sp_walkP (((), ((), val.1.1.2.1, val.1.1.2.2.1, ()), ((), ()), ()), (val.2.1.1, val.2.1.2.1, (), val.2.1.2.2.2.1, ()), (0, 0, (), [], [], ()), val.2.2.1, [], ())).bind fun val => selim val (fun val => (sp_stabPr (((), (), ()), val.2.2.2.2.1, ())).bind fun val_1 => some (Sum.inl ((Res.mk val.2.2.1.1 val.2.2.1.2.1 val_1.2.1 val.2.2.1.2.2.2.1 val.2.2.1.2.2.2.2.1, ()), (val.2.1.1, val.2.1.2.1, (), val.2.1.2.2.2.1, ()), val.2.2.2.1, ()))) fun val => some (Sum.inr (((), ()), (val.2.1.1, val.2.1.2.1, (), (), ()), val.2.2.2.1, ()))) fun val => some (Sum.inr (((), ()), (val.2.1.1, val.2.1.2.1, (), (), ()), val.2.2.1, ()))) fun val => some (Sum.inr (((), ()), (val.2.1.1, val.2.1.2.1, (), (), ()), val.2.2.1, ()))) := by kernel_rfl
theorem pairs_ok : Sound Tryz.prog gl 47 (pairs_C (Ifc.spec pairsI)) := by
  refine cqk (fn := Tryz.f47) (G := [(80, load_C (Ifc.spec loadI)), (86, prop_C (Ifc.spec propI)), (87, walkP_C (Ifc.spec walkPI)), (92, stabPr_C (Ifc.spec stabPrI))]) (GOk.cons load_g load_ok (GOk.cons prop_g prop_ok (GOk.cons walkP_g walkP_ok (GOk.cons stabPr_g stabPr_ok (GOk.nil))))) (by kernel_rfl) (by kernel_rfl) (Lc := []) (nh := [(0, [(4, some 2, (.st .pr))])]) (noloopN (by kernel_rfl)) ?_
  rintro ⟨⟨_, ⟨_, w, r, _⟩, _⟩, ⟨⟨c, got, _, held, _⟩, did, _⟩⟩
  refine (pairs_raw (Ifc.spec loadI) (Ifc.spec propI) (Ifc.spec walkPI) (Ifc.spec stabPrI) w r c got held did).trans ?_
  show _ = outG (pairsI.enc (((), ((), w, r, ()), ()), ((c, got, (), held, ()), did, ()))) (pairsI.stop (((), ((), w, r, ()), ()), ((c, got, (), held, ()), did, ()))) ((pairsTr w r c got held).exec got did)
  unfold pairsTr
  repeat' (first | (refine (retI (by with_reducible rfl)).trans ?_; try dsimp only [selim, cond_true, cond_false, Bool.not_true, Bool.not_false, one, none1, mI, loadI, propI, walkPI, stabPrI]) | (refine bindG (by with_reducible rfl) ?_; try dsimp only [selim, cond_true, cond_false, Bool.not_true, Bool.not_false, one, none1, mI, loadI, propI, walkPI, stabPrI]) | (refine bindI rfl rfl (fun _ _ => ?_) (fun _ => rfl); try dsimp only [selim, cond_true, cond_false, Bool.not_true, Bool.not_false, one, none1, mI, loadI, propI, walkPI, stabPrI]) | rfl)
abbrev lookPL0vs : List Vh := [pm, vi, .clo 1000047 [.ptr 0 0], .s (.ptr 2 0)]
abbrev lookPL0os : List OSh := cdj3q0
noncomputable abbrev lookPL0fin : Fin := ((Fin.one 2 Tryz.f46.ntmps .ret [6] [.s (.ptr 2 0)] cdj3q0).or (Fin.pan 2 59 (.agg []) machP))
def lookPL0Step (v1 : Int) (c : Cfg) (got : List Int) (held : List Int) (v9 : Res) (st : Unit) : T ((Unit) ⊕ (Res)) :=
 (seeTr v1 c got held).bind fun x0 =>
 (findTr v1 c got held).bind fun x1 =>
 bif x1 == 0 then
 .ret (Sum.inr (Res.mk 2 0 [] [] []))
 else
 (pairsTr 1 x1 c got held).bind fun x3 =>
 (seeTr v1 c got held).bind fun x4 =>
 bif x4 == x0 then
 .ret (Sum.inr x3)
 else
 .ret (Sum.inl ())
@[reducible] def lookPL0I : Ifc (VhL lookPL0vs × OShL lookPL0os) lookPL0fin.Y where
  α := Res
  tr x := T.loop (lookPL0Step x.1.2.1 x.2.1.1 x.2.1.2.1 x.2.1.2.2.2.1 x.2.2.2.1.1) (x.2.1.2.1.length + 10) ()
  got x := x.2.1.2.1
  did x := x.2.2.1
  enc x a d := Sum.inl ((((), ()), ((x.2.1.1, x.2.1.2.1, (), x.2.1.2.2.2.1, ()), d, (a, ()), ())))
  stop x d := Sum.inr ((((), ()), ((x.2.1.1, x.2.1.2.1, (), (), ()), d, ())))
theorem lookPL0_raw (sp_see : see_T) (sp_none : none_T) (sp_find : find_T) (sp_failed : failed_T) (sp_known : known_T) (sp_pairs : pairs_T) (v1 : Int) (c : Cfg) (got : List Int) (held : List Int) (did : List Acc) (v9 : Res) : runW 2 Tryz.f46 0 [0, 1, 2, 6] lookPL0vs lookPL0os lookPL0fin [(90, see_C sp_see), (74, none_C sp_none), (79, find_C sp_find), (51, failed_C sp_failed), (78, known_C sp_known), (47, pairs_C sp_pairs)] [] [] ((((), v1, ((), ()), (), ()), ((c, got, (), held, ()), did, (v9, ()), ())) : VhL lookPL0vs × OShL lookPL0os) = ((sp_see (((), v1, ()), (c, got, (), held, ()), did, ())).bind fun val => selim val (fun val => (sp_find (((), v1, ()), (val.2.1.1, val.2.1.2.1, (), val.2.1.2.2.2.1, ()), val.2.2.1, ())).bind fun val_1 => selim val_1 (fun val_2 => (sp_none ((((), val_2.1.1.2.1, val_2.1.1.2.2.1, ()), ()), (val_2.2.1.1, val_2.2.1.2.1, (), val_2.2.1.2.2.2.1, ()), val_2.2.2.1, ())).bind fun val_3 => selim val_3 (fun val_4 => bif val_4.1.1 then (sp_failed ((2, ()), ())).bind fun val => some (Sum.inr (Sum.inl (((), ()), (val_4.2.1.1, val_4.2.1.2.1, (), val_4.2.1.2.2.2.1, ()), val_4.2.2.1, (val.1.1, ()), ()))) else (sp_pairs (((), ((), val_2.1.1.2.1, val_2.1.1.2.2.1, ()), ()), (val_4.2.1.1, val_4.2.1.2.1, (), val_4.2.1.2.2.2.1, ()), val_4.2.2.1, ())).bind fun val_5 => selim val_5 (fun val_6 => (sp_see (((), v1, ()), (val_6.2.1.1, val_6.2.1.2.1, (), val_6.2.1.2.2.2.1, ()), val_6.2.2.1, ())).bind fun val_7 => selim val_7 (fun val_8 => bif val_8.1.1 == val.1.1 then some (Sum.inr (Sum.inl (((), ()), (val_8.2.1.1, val_8.2.1.2.1, (), val_8.2.1.2.2.2.1, ()), val_8.2.2.1, (val_6.1.1, ()), ()))) else some (Sum.inl (((), v1, ((), ()), (), ()), (val_8.2.1.1, val_8.2.1.2.1, (), val_8.2.1.2.2.2.1, ()), val_8.2.2.1, (v9, ()), ()))) fun val => some (Sum.inr (Sum.inr (((), ()), (val.2.1.1, val.2.1.2.1, (), (), ()), val.2.2.1, ())))) fun val => some (Sum.inr (Sum.inr (((), ()), (val.2.1.1, val.2.1.2.1, (), (), ()), val.2.2.1, ())))) fun val => some (Sum.inr (Sum.inr (((), ()), (val.2.1.1, val.2.1.2.1, (), (), ()), val.2.2.1, ())))) fun val => some (Sum.inr (Sum.inr (((), ()), (val.2.1.1, val.2.1.2.1, (), (), ()), val.2.2.1, ())))) fun val => some (Sum.inr (Sum.inr (((), ()), (val.2.1.1, val.2.1.2.1, (), (), ()), val.2.2.1, ())))) := by kernel_rfl
theorem lookPL0_ok : LOk Tryz.prog gl 2 (LCon.of Tryz.f46.ntmps [0, 1, 2, 6] lookPL0vs lookPL0os lookPL0fin (Ifc.spec lookPL0I)) (getL (body Tryz.f46) 0) := by
  refine lwk (Lc := []) (nh := []) (G := [(90, see_C (Ifc.spec seeI)), (74, none_C (Ifc.spec noneI)), (79, find_C (Ifc.spec findI)), (51, failed_C (Ifc.spec failedI)), (78, known_C (Ifc.spec knownI)), (47, pairs_C (Ifc.spec pairsI))]) (GOk.cons see_g see_ok (GOk.cons none_g none_ok (GOk.cons find_g find_ok (GOk.cons failed_g failed_ok (GOk.cons known_g known_ok (GOk.cons pairs_g pairs_ok (GOk.nil))))))) (noloopN (by kernel_rfl)) (Fin.or_ok (Fin.one_ok _ _ _ _) (Fin.pan_ok _ _ _)) ?_
  rintro ⟨⟨_, v1, ⟨_, _⟩, _, _⟩, ⟨⟨c, got, _, held, _⟩, did, ⟨v9, _⟩, _⟩⟩ y hy
  refine ⟨_, loopT_ok (eX := fun (st : Unit) (d : List Acc) => ((((), v1, ((), ()), (), ()), ((c, got, (), held, ()), d, (v9, ()), ())) : VhL lookPL0vs × OShL lookPL0os)) (body := lookPL0Step v1 c got held v9) (fun st d => ?_) _ () did y hy⟩
  skip
  refine (lookPL0_raw (Ifc.spec seeI) (Ifc.spec noneI) (Ifc.spec findI) (Ifc.spec failedI) (Ifc.spec knownI) (Ifc.spec pairsI) v1 c got held d v9).trans ?_
  unfold lookPL0Step
  repeat' (first | refine cond_out (fun _ => ?_) (fun _ => ?_) | (refine (retI (by with_reducible rfl)).trans ?_; try dsimp only [selim, cond_true, cond_false, Bool.not_true, Bool.not_false, one, none1, mI, seeI, noneI, findI, failedI, knownI, pairsI]) | (refine bindI rfl rfl (fun _ _ => ?_) (fun _ => rfl); try dsimp only [selim, cond_true, cond_false, Bool.not_true, Bool.not_false, one, none1, mI, seeI, noneI, findI, failedI, knownI, pairsI]) | rfl)
def lookPTr (n : Int) (c : Cfg) (got : List Int) (held : List Int) : T (Res) :=
 (knownTr [n] c got held).bind fun x0 =>
 bif !x0 then
 .ret (Res.mk 2 0 [] [] [])
 else
 (T.loop (lookPL0Step n c got held (Res.mk 0 0 [] [] [])) (got.length + 10) ()).bind fun x1 =>
 .ret x1
@[reducible] def lookPI : Ifc (VhL [pm, vi, .clo 1000047 [.ptr 0 0]] × OShL mach) ((VhL [.s (.e (.st .res))] × OShL mach) ⊕ (VhL [.agg []] × OShL machP)) where
  α := Res
  tr x := lookPTr x.1.2.1 x.2.1.1 x.2.1.2.1 x.2.1.2.2.2.1
  got x := x.2.1.2.1
  did x := x.2.2.1
  enc x a d := Sum.inl (((a, ()), ((x.2.1.1, x.2.1.2.1, (), x.2.1.2.2.2.1, ()), d, ())))
  stop x d := Sum.inr ((((), ()), ((x.2.1.1, x.2.1.2.1, (), (), ()), d, ())))
abbrev lookP_T : Type := VhL [pm, vi, .clo 1000047 [.ptr 0 0]] × OShL mach → Option ((VhL [.s (.e (.st .res))] × OShL mach) ⊕ (VhL [.agg []] × OShL machP))
noncomputable abbrev lookP_C (sp : lookP_T) : Con := cq [pm, vi, .clo 1000047 [.ptr 0 0]] mach [.s (.e (.st .res))] mach machP sp
theorem lookP_g : Callable Tryz.prog 46 := ⟨Tryz.f46, body Tryz.f46, by kernel_rfl, by kernel_rfl, by kernel_rfl⟩
theorem lookP_raw (sp_see : see_T) (sp_none : none_T) (sp_find : find_T) (sp_failed : failed_T) (sp_known : known_T) (sp_pairs : pairs_T) (sp_lookPL0 : VhL lookPL0vs × OShL lookPL0os → Option lookPL0fin.Y) (n : Int) (c : Cfg) (got : List Int) (held : List Int) (did : List Acc) : runQ Tryz.f46 [pm, vi, .clo 1000047 [.ptr 0 0]] mach [.s (.e (.st .res))] mach machP [(90, see_C sp_see), (74, none_C sp_none), (79, find_C sp_find), (51, failed_C sp_failed), (78, known_C sp_known), (47, pairs_C sp_pairs)] [(3, LCon.of Tryz.f46.ntmps [0, 1, 2, 6] lookPL0vs lookPL0os lookPL0fin sp_lookPL0)] [] ((((), n, ((), ()), ()), ((c, got, (), held, ()), did, ())) : VhL [pm, vi, .clo 1000047 [.ptr 0 0]] × OShL mach) = ((sp_known (((), [n], ()), (c, got, (), held, ()), did, ())).bind fun val => selim val (fun val => bif !val.1.1 then (sp_failed ((2, ()), ())).bind fun val_1 => some (Sum.inl ((val_1.1.1, ()), (val.2.1.1, val.2.1.2.1, (), val.2.1.2.2.2.1, ()), val.2.2.1, ())) else (sp_lookPL0 (((), n, ((), ()), (), ()), (val.2.1.1, val.2.1.2.1, (), val.2.1.2.2.2.1, ()), val.2.2.1, (Res.mk 0 0 [] [] [], ()), ())).bind fun val => selim val (fun val => some (Sum.inl ((val.2.2.2.1.1, ()), (val.2.1.1, val.2.1.2.1, (), val.2.1.2.2.2.1, ()), val.2.2.1, ()))) fun val => some (Sum.inr (((), ()), (val.2.1.1, val.2.1.2.1, (), (), ()), val.2.2.1, ()))) fun val => some (Sum.inr (((), ()), (val.2.1.1, val.2.1.2.1, (), (), ()), val.2.2.1, ()))) := by kernel_rfl
theorem lookP_ok : Sound Tryz.prog gl 46 (lookP_C (Ifc.spec lookPI)) := by
  refine cqk (fn := Tryz.f46) (G := [(90, see_C (Ifc.spec seeI)), (74, none_C (Ifc.spec noneI)), (79, find_C (Ifc.spec findI)), (51, failed_C (Ifc.spec failedI)), (78, known_C (Ifc.spec knownI)), (47, pairs_C (Ifc.spec pairsI))]) (GOk.cons see_g see_ok (GOk.cons none_g none_ok (GOk.cons find_g find_ok (GOk.cons failed_g failed_ok (GOk.cons known_g known_ok (GOk.cons pairs_g pairs_ok (GOk.nil))))))) (by kernel_rfl) (by kernel_rfl) (Lc := [(3, LCon.of Tryz.f46.ntmps [0, 1, 2, 6] lookPL0vs lookPL0os lookPL0fin (Ifc.spec lookPL0I))]) (nh := []) (lcok (bs := [getL (body Tryz.f46) 0]) (by kernel_rfl) ⟨lone_ok (q := (3, LCon.of Tryz.f46.ntmps [0, 1, 2, 6] lookPL0vs lookPL0os lookPL0fin (Ifc.spec lookPL0I))) (by kernel_rfl) lookPL0_ok, trivial⟩) ?_
  rintro ⟨⟨_, n, ⟨_, _⟩, _⟩, ⟨⟨c, got, _, held, _⟩, did, _⟩⟩
  refine (lookP_raw (Ifc.spec seeI) (Ifc.spec noneI) (Ifc.spec findI) (Ifc.spec failedI) (Ifc.spec knownI) (Ifc.spec pairsI) (Ifc.spec lookPL0I) n c got held did).trans ?_
  show _ = outG (lookPI.enc (((), n, ((), ()), ()), ((c, got, (), held, ()), did, ()))) (lookPI.stop (((), n, ((), ()), ()), ((c, got, (), held, ()), did, ()))) ((lookPTr n c got held).exec got did)
  unfold lookPTr
  repeat' (first | refine cond_out (fun _ => ?_) (fun _ => ?_) | (refine (retI (by with_reducible rfl)).trans ?_; try dsimp only [selim, cond_true, cond_false, Bool.not_true, Bool.not_false, one, none1, mI, seeI, noneI, findI, failedI, knownI, pairsI, lookPL0I]) | (refine bindI rfl rfl (fun _ _ => ?_) (fun _ => rfl); try dsimp only [selim, cond_true, cond_false, Bool.not_true, Bool.not_false, one, none1, mI, seeI, noneI, findI, failedI, knownI, pairsI, lookPL0I]) | rfl)
end Go.Ax.Cd
/- The package code by contracts (printed by wip/tools/con3.py). -/
namespace Go.Ax.Cd
open Go.Proofs
set_option linter.unusedVariables false
set_option maxRecDepth 100000
abbrev holdDL0vs : List Vh := [pm, vi, .s (.lent .int), .clo 100 [], .s (.ptr 2 0), .s (.ptr 3 0), .s (.own 4)]
abbrev holdDL0os : List OSh := [.box [.e (.st .cfg), .e (.sl .int), .own 1, .sln .int], .arr (.st .acc), .box [.any, .e .int, .e .int], .box [.ptr 0 0, .e .int, .e .int], .arr .int]
noncomputable abbrev holdDL0fin : Fin := ((Fin.one 2 Tryz.f99.ntmps .ret [8, 9] [.s (.ptr 2 0), vb] [.box [.e (.st .cfg), .e (.sl .int), .own 1, .sln .int], .arr (.st .acc), .box [.ptr 0 0, .e .int, .e .int]]).or (Fin.pan 2 59 (.agg []) machP))
def holdDL0Step (v1 : Int) (v2 : List Int) (c : Cfg) (got : List Int) (v12 : Int) (v13 : Int) (st : List Int × Int × Int × List Int) : T ((List Int × Int × Int × List Int) ⊕ (Bool × List Int × Int)) :=
 let held := st.1
 let v15 := st.2.1
 let v16 := st.2.2.1
 let v17 := st.2.2.2
 (latchTr v17 c got held).bind fun x0 =>
 (findTr v1 c got x0).bind fun x1 =>
 bif x1 == 0 then
 .ret (Sum.inr (false, x0, x1))
 else
 (aroundTr 1 x1 c got x0).bind fun x4 =>
 bif decide (x4.length + v2.length ≤ 1000000000) then
 (T.gret (ordG (x4 ++ v2) && ordG x0) ()).bind fun _ =>
 bif ordIn (x4 ++ v2) x0 then
 .ret (Sum.inr (true, x0, x1))
 else
 (freeTr x0).bind fun _ =>
 .ret (Sum.inl ([], 1, x1, x4 ++ v2))
 else
 .bot
@[reducible] def holdDL0I : Ifc (VhL holdDL0vs × OShL holdDL0os) holdDL0fin.Y where
  α := Bool × List Int × Int
  tr x := T.loop (holdDL0Step x.1.2.1 x.1.2.2.1 x.2.1.1 x.2.1.2.1 x.2.2.2.1.2.1 x.2.2.2.1.2.2.1) (x.2.1.2.1.length + 10) (x.2.1.2.2.2.1, x.2.2.2.2.1.2.1, x.2.2.2.2.1.2.2.1, x.2.2.2.2.2.1)
  got x := x.2.1.2.1
  did x := x.2.2.1
  enc x a d := Sum.inl ((((), a.1, ()), ((x.2.1.1, x.2.1.2.1, (), a.2.1, ()), d, ((), 1, a.2.2, ()), ())))
  stop x d := Sum.inr ((((), ()), ((x.2.1.1, x.2.1.2.1, (), (), ()), d, ())))
theorem holdDL0_raw (sp_none : none_T) (sp_find : find_T) (sp_latch : latch_T) (sp_around : around_T) (sp_holdCd : holdCd_T) (sp_ordWithin : ordWithin_T) (sp_free : free_T) (v1 : Int) (v2 : List Int) (c : Cfg) (got : List Int) (held : List Int) (did : List Acc) (v12 : Int) (v13 : Int) (v15 : Int) (v16 : Int) (v17 : List Int) : runW 2 Tryz.f99 0 [0, 1, 2, 3, 8, 10, 11] holdDL0vs holdDL0os holdDL0fin [(74, none_C sp_none), (79, find_C sp_find), (71, latch_C sp_latch), (118, around_C sp_around), (100, holdCd_C sp_holdCd), (83, ordWithin_C sp_ordWithin), (28, free_C sp_free)] [] [] ((((), v1, v2, (), (), (), (), ()), ((c, got, (), held, ()), did, ((), v12, v13, ()), ((), v15, v16, ()), v17, ())) : VhL holdDL0vs × OShL holdDL0os) = ((sp_latch (((), v17, ()), (c, got, (), held, ()), did, ())).bind fun val => selim val (fun val => (sp_find (((), v1, ()), (val.2.1.1, val.2.1.2.1, (), val.2.1.2.2.2.1, ()), val.2.2.1, ())).bind fun val => selim val (fun val => (sp_none ((((), val.1.1.2.1, val.1.1.2.2.1, ()), ()), (val.2.1.1, val.2.1.2.1, (), val.2.1.2.2.2.1, ()), val.2.2.1, ())).bind fun val_1 => selim val_1 (fun val_2 => bif val_2.1.1 then some (Sum.inr (Sum.inl (((), false, ()), (val_2.2.1.1, val_2.2.1.2.1, (), val_2.2.1.2.2.2.1, ()), val_2.2.2.1, ((), val.1.1.2.1, val.1.1.2.2.1, ()), ()))) else (sp_holdCd ((), ())).bind fun val_3 => bif val_3.1.1 then some (Sum.inr (Sum.inl (((), false, ()), (val_2.2.1.1, val_2.2.1.2.1, (), val_2.2.1.2.2.2.1, ()), val_2.2.2.1, ((), val.1.1.2.1, val.1.1.2.2.1, ()), ()))) else (sp_around (((), ((), val.1.1.2.1, val.1.1.2.2.1, ()), ()), (val_2.2.1.1, val_2.2.1.2.1, (), val_2.2.1.2.2.2.1, ()), val_2.2.2.1, ())).bind fun val_4 => selim val_4 (fun val_5 => bif decide (List.length val_5.2.2.2.1 + v2.length ≤ 1000000000) then (sp_ordWithin ((val_5.2.2.2.1 ++ v2, val_5.2.1.2.2.2.1, ()), ())).bind fun val_6 => bif val_6.1.1 then some (Sum.inr (Sum.inl (((), true, ()), (val_5.2.1.1, val_5.2.1.2.1, (), val_5.2.1.2.2.2.1, ()), val_5.2.2.1, ((), val.1.1.2.1, val.1.1.2.2.1, ()), ()))) else (sp_free (((), ()), (val_5.2.1.1, val_5.2.1.2.1, (), val_5.2.1.2.2.2.1, ()), val_5.2.2.1, ())).bind fun val_7 => selim val_7 (fun val_8 => some (Sum.inl (((), v1, v2, (), (), (), (), ()), (val_8.2.1.1, val_8.2.1.2.1, (), val_8.2.1.2.2.2.1, ()), val_8.2.2.1, ((), v12, v13, ()), ((), val.1.1.2.1, val.1.1.2.2.1, ()), val_5.2.2.2.1 ++ v2, ()))) fun val => some (Sum.inr (Sum.inr (((), ()), (val.2.1.1, val.2.1.2.1, (), (), ()), val.2.2.1, ()))) else none) fun val => some (Sum.inr (Sum.inr (((), ()), (val.2.1.1, val.2.1.2.1, (), (), ()), val.2.2.1, ())))) fun val => some (Sum.inr (Sum.inr (((), ()), (val.2.1.1, val.2.1.2.1, (), (), ()), val.2.2.1, ())))) fun val => some (Sum.inr (Sum.inr (((), ()), (val.2.1.1, val.2.1.2.1, (), (), ()), val.2.2.1, ())))) fun val => some (Sum.inr (Sum.inr (((), ()), (val.2.1.1, val.2.1.2.1, (), (), ()), val.2.2.1, ())))) := by kernel_rfl
theorem holdDL0_ok : LOk Tryz.prog gl 2 (LCon.of Tryz.f99.ntmps [0, 1, 2, 3, 8, 10, 11] holdDL0vs holdDL0os holdDL0fin (Ifc.spec holdDL0I)) (getL (body Tryz.f99) 0) := by
  refine lwk (Lc := []) (nh := []) (G := [(74, none_C (Ifc.spec noneI)), (79, find_C (Ifc.spec findI)), (71, latch_C (Ifc.spec latchI)), (118, around_C (Ifc.spec aroundI)), (100, holdCd_C (Ifc.spec holdCdI)), (83, ordWithin_C (Ifc.spec ordWithinI)), (28, free_C (Ifc.spec freeI))]) (GOk.cons none_g none_ok (GOk.cons find_g find_ok (GOk.cons latch_g latch_ok (GOk.cons around_g around_ok (GOk.cons holdCd_g holdCd_ok (GOk.cons ordWithin_g ordWithin_ok (GOk.cons free_g free_ok (GOk.nil)))))))) (noloopN (by kernel_rfl)) (Fin.or_ok (Fin.one_ok _ _ _ _) (Fin.pan_ok _ _ _)) ?_
  rintro ⟨⟨_, v1, v2, _, _, _, _, _⟩, ⟨⟨c, got, _, held, _⟩, did, ⟨_, v12, v13, _⟩, ⟨_, v15, v16, _⟩, v17, _⟩⟩ y hy
  refine ⟨_, loopT_ok (eX := fun (st : List Int × Int × Int × List Int) (d : List Acc) => (let held := st.1; let v15 := st.2.1; let v16 := st.2.2.1; let v17 := st.2.2.2; (((), v1, v2, (), (), (), (), ()), ((c, got, (), held, ()), d, ((), v12, v13, ()), ((), v15, v16, ()), v17, ())) : VhL holdDL0vs × OShL holdDL0os)) (body := holdDL0Step v1 v2 c got v12 v13) (fun st d => ?_) _ (held, v15, v16, v17) did y hy⟩
  obtain ⟨held, v15, v16, v17⟩ := st
  refine (holdDL0_raw (Ifc.spec noneI) (Ifc.spec findI) (Ifc.spec latchI) (Ifc.spec aroundI) (Ifc.spec holdCdI) (Ifc.spec ordWithinI) (Ifc.spec freeI) v1 v2 c got held d v12 v13 v15 v16 v17).trans ?_
  unfold holdDL0Step
  repeat' (first | refine cond_out (fun _ => ?_) (fun _ => ?_) | (refine (retI (by with_reducible rfl)).trans ?_; try dsimp only [selim, cond_true, cond_false, Bool.not_true, Bool.not_false, one, none1, mI, noneI, findI, latchI, aroundI, holdCdI, ordWithinI, freeI]) | (refine bindG (by with_reducible rfl) ?_; try dsimp only [selim, cond_true, cond_false, Bool.not_true, Bool.not_false, one, none1, mI, noneI, findI, latchI, aroundI, holdCdI, ordWithinI, freeI]) | (refine bindI rfl rfl (fun _ _ => ?_) (fun _ => rfl); try dsimp only [selim, cond_true, cond_false, Bool.not_true, Bool.not_false, one, none1, mI, noneI, findI, latchI, aroundI, holdCdI, ordWithinI, freeI]) | rfl)
def holdDTr (n : Int) (more : List Int) (c : Cfg) (got : List Int) (held : List Int) : T (Int × Bool × List Int) :=
 (findTr n c got held).bind fun x0 =>
 bif x0 == 0 then
 .ret (x0, false, held)
 else
 (aroundTr 1 x0 c got held).bind fun x2 =>
 bif decide (x2.length + more.length ≤ 1000000000) then
 (T.loop (holdDL0Step n more c got 0 0) (got.length + 10) (held, 1, x0, x2 ++ more)).bind fun x3 =>
 .ret (x3.2.2, x3.1, x3.2.1)
 else
 .bot
@[reducible] def holdDI : Ifc (VhL [pm, vi, .s (.lent .int), .clo 100 []] × OShL mach) ((VhL [rc, vb] × OShL mach) ⊕ (VhL [.agg []] × OShL machP)) where
  α := Int × Bool × List Int
  tr x := holdDTr x.1.2.1 x.1.2.2.1 x.2.1.1 x.2.1.2.1 x.2.1.2.2.2.1
  got x := x.2.1.2.1
  did x := x.2.2.1
  enc x a d := Sum.inl (((((), 1, a.1, ()), a.2.1, ()), ((x.2.1.1, x.2.1.2.1, (), a.2.2, ()), d, ())))
  stop x d := Sum.inr ((((), ()), ((x.2.1.1, x.2.1.2.1, (), (), ()), d, ())))
abbrev holdD_T : Type := VhL [pm, vi, .s (.lent .int), .clo 100 []] × OShL mach → Option ((VhL [rc, vb] × OShL mach) ⊕ (VhL [.agg []] × OShL machP))
noncomputable abbrev holdD_C (sp : holdD_T) : Con := cq [pm, vi, .s (.lent .int), .clo 100 []] mach [rc, vb] mach machP sp
theorem holdD_g : Callable Tryz.prog 99 := ⟨Tryz.f99, body Tryz.f99, by kernel_rfl, by kernel_rfl, by kernel_rfl⟩
theorem holdD_raw (sp_none : none_T) (sp_find : find_T) (sp_latch : latch_T) (sp_around : around_T) (sp_holdCd : holdCd_T) (sp_ordWithin : ordWithin_T) (sp_free : free_T) (sp_holdDL0 : VhL holdDL0vs × OShL holdDL0os → Option holdDL0fin.Y) (n : Int) (more : List Int) (c : Cfg) (got : List Int) (held : List Int) (did : List Acc) : runQ Tryz.f99 [pm, vi, .s (.lent .int), .clo 100 []] mach [rc, vb] mach machP [(74, none_C sp_none), (79, find_C sp_find), (71, latch_C sp_latch), (118, around_C sp_around), (100, holdCd_C sp_holdCd), (83, ordWithin_C sp_ordWithin), (28, free_C sp_free)] [(5, LCon.of Tryz.f99.ntmps [0, 1, 2, 3, 8, 10, 11] holdDL0vs holdDL0os holdDL0fin sp_holdDL0)] [] ((((), n, more, (), ()), ((c, got, (), held, ()), did, ())) : VhL [pm, vi, .s (.lent .int), .clo 100 []] × OShL mach) = ((sp_find (((), n, ()), (c, got, (), held, ()), did, ())).bind fun val => selim val (fun val => (sp_none ((((), val.1.1.2.1, val.1.1.2.2.1, ()), ()), (val.2.1.1, val.2.1.2.1, (), val.2.1.2.2.2.1, ()), val.2.2.1, ())).bind fun val_1 => selim val_1 (fun val_2 => bif val_2.1.1 then some (Sum.inl ((((), val.1.1.2.1, val.1.1.2.2.1, ()), false, ()), (val_2.2.1.1, val_2.2.1.2.1, (), val_2.2.1.2.2.2.1, ()), val_2.2.2.1, ())) else (sp_around (((), ((), val.1.1.2.1, val.1.1.2.2.1, ()), ()), (val_2.2.1.1, val_2.2.1.2.1, (), val_2.2.1.2.2.2.1, ()), val_2.2.2.1, ())).bind fun val_3 => selim val_3 (fun val_4 => bif decide (List.length val_4.2.2.2.1 + more.length ≤ 1000000000) then (sp_holdDL0 (((), n, more, (), (), (), (), ()), (val_4.2.1.1, val_4.2.1.2.1, (), val_4.2.1.2.2.2.1, ()), val_4.2.2.1, ((), 0, 0, ()), ((), val.1.1.2.1, val.1.1.2.2.1, ()), val_4.2.2.2.1 ++ more, ())).bind fun val => selim val (fun val => some (Sum.inl ((((), val.2.2.2.1.2.1, val.2.2.2.1.2.2.1, ()), val.1.2.1, ()), (val.2.1.1, val.2.1.2.1, (), val.2.1.2.2.2.1, ()), val.2.2.1, ()))) fun val => some (Sum.inr (((), ()), (val.2.1.1, val.2.1.2.1, (), (), ()), val.2.2.1, ())) else none) fun val => some (Sum.inr (((), ()), (val.2.1.1, val.2.1.2.1, (), (), ()), val.2.2.1, ()))) fun val => some (Sum.inr (((), ()), (val.2.1.1, val.2.1.2.1, (), (), ()), val.2.2.1, ()))) fun val => some (Sum.inr (((), ()), (val.2.1.1, val.2.1.2.1, (), (), ()), val.2.2.1, ()))) := by kernel_rfl
theorem holdD_ok : Sound Tryz.prog gl 99 (holdD_C (Ifc.spec holdDI)) := by
  refine cqk (fn := Tryz.f99) (G := [(74, none_C (Ifc.spec noneI)), (79, find_C (Ifc.spec findI)), (71, latch_C (Ifc.spec latchI)), (118, around_C (Ifc.spec aroundI)), (100, holdCd_C (Ifc.spec holdCdI)), (83, ordWithin_C (Ifc.spec ordWithinI)), (28, free_C (Ifc.spec freeI))]) (GOk.cons none_g none_ok (GOk.cons find_g find_ok (GOk.cons latch_g latch_ok (GOk.cons around_g around_ok (GOk.cons holdCd_g holdCd_ok (GOk.cons ordWithin_g ordWithin_ok (GOk.cons free_g free_ok (GOk.nil)))))))) (by kernel_rfl) (by kernel_rfl) (Lc := [(5, LCon.of Tryz.f99.ntmps [0, 1, 2, 3, 8, 10, 11] holdDL0vs holdDL0os holdDL0fin (Ifc.spec holdDL0I))]) (nh := []) (lcok (bs := [getL (body Tryz.f99) 0]) (by kernel_rfl) ⟨lone_ok (q := (5, LCon.of Tryz.f99.ntmps [0, 1, 2, 3, 8, 10, 11] holdDL0vs holdDL0os holdDL0fin (Ifc.spec holdDL0I))) (by kernel_rfl) holdDL0_ok, trivial⟩) ?_
  rintro ⟨⟨_, n, more, _, _⟩, ⟨⟨c, got, _, held, _⟩, did, _⟩⟩
  refine (holdD_raw (Ifc.spec noneI) (Ifc.spec findI) (Ifc.spec latchI) (Ifc.spec aroundI) (Ifc.spec holdCdI) (Ifc.spec ordWithinI) (Ifc.spec freeI) (Ifc.spec holdDL0I) n more c got held did).trans ?_
  show _ = outG (holdDI.enc (((), n, more, (), ()), ((c, got, (), held, ()), did, ()))) (holdDI.stop (((), n, more, (), ()), ((c, got, (), held, ()), did, ()))) ((holdDTr n more c got held).exec got did)
  unfold holdDTr
  repeat' (first | refine cond_out (fun _ => ?_) (fun _ => ?_) | (refine (retI (by with_reducible rfl)).trans ?_; try dsimp only [selim, cond_true, cond_false, Bool.not_true, Bool.not_false, one, none1, mI, noneI, findI, latchI, aroundI, holdCdI, ordWithinI, freeI, holdDL0I]) | (refine bindI rfl rfl (fun _ _ => ?_) (fun _ => rfl); try dsimp only [selim, cond_true, cond_false, Bool.not_true, Bool.not_false, one, none1, mI, noneI, findI, latchI, aroundI, holdCdI, ordWithinI, freeI, holdDL0I]) | rfl)
end Go.Ax.Cd
/- The package code by contracts (printed by wip/tools/con3.py). -/
namespace Go.Ax.Cd
open Go.Proofs
set_option linter.unusedVariables false
set_option maxRecDepth 100000
abbrev cdj5q4 : List OSh := [.box [.e (.st .cfg), .e (.sl .int), .own 4, .any], .any, .any, .any, .arr (.st .acc)]
abbrev cdj5q3 : List OSh := [.box [.e (.st .cfg), .e (.sl .int), .own 4, .sln .int], .box [.ptr 0 0], .box [.e .int], .box [.ptr 0 0, .e .int, .e .int], .arr (.st .acc)]
abbrev cdj5q2 : List OSh := [.box [.ptr 3 0], .box [.e .int], .box [.ptr 3 0, .e .int, .e .int], .box [.e (.st .cfg), .e (.sl .int), .own 4, .sln .int], .arr (.st .acc)]
abbrev cdj5q1 : List OSh := [.box [.ptr 3 0], .box [.e .int], .box [.any, .e .int, .e .int], .box [.e (.st .cfg), .e (.sl .int), .own 4, .sln .int], .arr (.st .acc)]
abbrev cdj5q0 : List OSh := [.box [.e (.st .cfg), .e (.sl .int), .own 4, .sln .int], .box [.ptr 0 0], .box [.e .int], .box [.any, .e .int, .e .int], .arr (.st .acc)]
def fuseC1Tr (a : Int) (xw : Int) (xr : Int) (c : Cfg) (got : List Int) (held : List Int) : T (Bool × Int) :=
 (findTr a c got held).bind fun x0 =>
 .ret (x0 == 0, x0)
@[reducible] def fuseC1I : Ifc (VhL [pm, .s (.ptr 1 0), .s (.ptr 2 0)] × OShL cdj5q1) ((VhL [vb] × OShL cdj5q2) ⊕ (VhL [.agg []] × OShL [.any, .any, .any, .box [.e (.st .cfg), .e (.sl .int), .own 4, .any], .arr (.st .acc)])) where
  α := Bool × Int
  tr x := fuseC1Tr x.2.2.1.1 x.2.2.2.1.2.1 x.2.2.2.1.2.2.1 x.2.2.2.2.1.1 x.2.2.2.2.1.2.1 x.2.2.2.2.1.2.2.2.1
  got x := x.2.2.2.2.1.2.1
  did x := x.2.2.2.2.2.1
  enc x a d := Sum.inl (((a.1, ()), (((), ()), (x.2.2.1.1, ()), ((), 1, a.2, ()), (x.2.2.2.2.1.1, x.2.2.2.2.1.2.1, (), x.2.2.2.2.1.2.2.2.1, ()), d, ())))
  stop x d := Sum.inr ((((), ()), ((), (), (), (x.2.2.2.2.1.1, x.2.2.2.2.1.2.1, (), (), ()), d, ())))
abbrev fuseC1_T : Type := VhL [pm, .s (.ptr 1 0), .s (.ptr 2 0)] × OShL cdj5q1 → Option ((VhL [vb] × OShL cdj5q2) ⊕ (VhL [.agg []] × OShL [.any, .any, .any, .box [.e (.st .cfg), .e (.sl .int), .own 4, .any], .arr (.st .acc)]))
noncomputable abbrev fuseC1_C (sp : fuseC1_T) : Con := cq [pm, .s (.ptr 1 0), .s (.ptr 2 0)] cdj5q1 [vb] cdj5q2 [.any, .any, .any, .box [.e (.st .cfg), .e (.sl .int), .own 4, .any], .arr (.st .acc)] sp
theorem fuseC1_g : Callable Tryz.prog 107 := ⟨Tryz.f107, body Tryz.f107, by kernel_rfl, by kernel_rfl, by kernel_rfl⟩
theorem fuseC1_raw (sp_none : none_T) (sp_find : find_T) (a : Int) (xw : Int) (xr : Int) (c : Cfg) (got : List Int) (held : List Int) (did : List Acc) : runQ Tryz.f107 [pm, .s (.ptr 1 0), .s (.ptr 2 0)] cdj5q1 [vb] cdj5q2 [.any, .any, .any, .box [.e (.st .cfg), .e (.sl .int), .own 4, .any], .arr (.st .acc)] [(74, none_C sp_none), (79, find_C sp_find)] [] [] ((((), (), (), ()), (((), ()), (a, ()), ((), xw, xr, ()), (c, got, (), held, ()), did, ())) : VhL [pm, .s (.ptr 1 0), .s (.ptr 2 0)] × OShL cdj5q1) = ((sp_find (((), a, ()), (c, got, (), held, ()), did, ())).bind fun val => selim val (fun val => (sp_none ((((), val.1.1.2.1, val.1.1.2.2.1, ()), ()), (val.2.1.1, val.2.1.2.1, (), val.2.1.2.2.2.1, ()), val.2.2.1, ())).bind fun val_1 => selim val_1 (fun val_2 => some (Sum.inl ((val_2.1.1, ()), ((), ()), (a, ()), ((), val.1.1.2.1, val.1.1.2.2.1, ()), (val_2.2.1.1, val_2.2.1.2.1, (), val_2.2.1.2.2.2.1, ()), val_2.2.2.1, ()))) fun val => some (Sum.inr (((), ()), (), (), (), (val.2.1.1, val.2.1.2.1, (), (), ()), val.2.2.1, ()))) fun val => some (Sum.inr (((), ()), (), (), (), (val.2.1.1, val.2.1.2.1, (), (), ()), val.2.2.1, ()))) := by kernel_rfl
theorem fuseC1_ok : Sound Tryz.prog gl 107 (fuseC1_C (Ifc.spec fuseC1I)) := by
  refine cqk (fn := Tryz.f107) (G := [(74, none_C (Ifc.spec noneI)), (79, find_C (Ifc.spec findI))]) (GOk.cons none_g none_ok (GOk.cons find_g find_ok (GOk.nil))) (by kernel_rfl) (by kernel_rfl) (Lc := []) (nh := []) (noloopN (by kernel_rfl)) ?_
  rintro ⟨⟨_, _, _, _⟩, ⟨⟨_, _⟩, ⟨a, _⟩, ⟨_, xw, xr, _⟩, ⟨c, got, _, held, _⟩, did, _⟩⟩
  refine (fuseC1_raw (Ifc.spec noneI) (Ifc.spec findI) a xw xr c got held did).trans ?_
  show _ = outG (fuseC1I.enc (((), (), (), ()), (((), ()), (a, ()), ((), xw, xr, ()), (c, got, (), held, ()), did, ()))) (fuseC1I.stop (((), (), (), ()), (((), ()), (a, ()), ((), xw, xr, ()), (c, got, (), held, ()), did, ()))) ((fuseC1Tr a xw xr c got held).exec got did)
  unfold fuseC1Tr
  repeat' (first | (refine (retI (by with_reducible rfl)).trans ?_; try dsimp only [selim, cond_true, cond_false, Bool.not_true, Bool.not_false, one, none1, mI, noneI, findI]) | (refine bindI rfl rfl (fun _ _ => ?_) (fun _ => rfl); try dsimp only [selim, cond_true, cond_false, Bool.not_true, Bool.not_false, one, none1, mI, noneI, findI]) | rfl)
abbrev holdFL0vs : List Vh := [pm, vi, .s (.lent .int), .clo 107 [.ptr 1 0, .ptr 2 0, .ptr 3 0], .s (.ptr 5 0), .s (.ptr 6 0), .s (.own 7)]
abbrev holdFL0os : List OSh := [.box [.e (.st .cfg), .e (.sl .int), .own 4, .sln .int], .box [.ptr 0 0], .box [.e .int], .box [.any, .e .int, .e .int], .arr (.st .acc), .box [.any, .e .int, .e .int], .box [.ptr 0 0, .e .int, .e .int], .arr .int]
noncomputable abbrev holdFL0fin : Fin := ((Fin.one 5 Tryz.f99.ntmps .ret [8, 9] [.s (.ptr 5 0), vb] [.box [.e (.st .cfg), .e (.sl .int), .own 4, .sln .int], .box [.ptr 0 0], .box [.e .int], .box [.ptr 0 0, .e .int, .e .int], .arr (.st .acc), .box [.ptr 0 0, .e .int, .e .int]]).or ((Fin.one 5 Tryz.f99.ntmps .ret [8, 9] [.s (.ptr 5 0), vb] [.box [.e (.st .cfg), .e (.sl .int), .own 4, .sln .int], .box [.ptr 0 0], .box [.e .int], .box [.any, .e .int, .e .int], .arr (.st .acc), .box [.ptr 0 0, .e .int, .e .int]]).or (Fin.pan 5 59 (.agg []) cdj5q4)))
def holdFL0Step (v1 : Int) (v2 : List Int) (c : Cfg) (got : List Int) (a : Int) (v20 : Int) (v21 : Int) (st : List Int × Int × Int × Int × Int × List Int) : T ((List Int × Int × Int × Int × Int × List Int) ⊕ ((Bool × List Int × Int × Int) ⊕ (List Int × Int × Int × Int))) :=
 let held := st.1
 let xw := st.2.1
 let xr := st.2.2.1
 let v23 := st.2.2.2.1
 let v24 := st.2.2.2.2.1
 let v25 := st.2.2.2.2.2
 (latchTr v25 c got held).bind fun x0 =>
 (findTr v1 c got x0).bind fun x1 =>
 bif x1 == 0 then
 .ret (Sum.inr (Sum.inr ((x0, xw, xr, x1))))
 else
 (fuseC1Tr a xw xr c got x0).bind fun x3 =>
 bif x3.1 then
 .ret (Sum.inr (Sum.inl ((false, x0, x3.2, x1))))
 else
 (aroundTr 1 x1 c got x0).bind fun x4 =>
 bif decide (x4.length + v2.length ≤ 1000000000) then
 (T.gret (ordG (x4 ++ v2) && ordG x0) ()).bind fun _ =>
 bif ordIn (x4 ++ v2) x0 then
 .ret (Sum.inr (Sum.inl ((true, x0, x3.2, x1))))
 else
 (freeTr x0).bind fun _ =>
 .ret (Sum.inl ([], 1, x3.2, 1, x1, x4 ++ v2))
 else
 .bot
@[reducible] def holdFL0I : Ifc (VhL holdFL0vs × OShL holdFL0os) holdFL0fin.Y where
  α := (Bool × List Int × Int × Int) ⊕ (List Int × Int × Int × Int)
  tr x := T.loop (holdFL0Step x.1.2.1 x.1.2.2.1 x.2.1.1 x.2.1.2.1 x.2.2.2.1.1 x.2.2.2.2.2.2.1.2.1 x.2.2.2.2.2.2.1.2.2.1) (x.2.1.2.1.length + 10) (x.2.1.2.2.2.1, x.2.2.2.2.1.2.1, x.2.2.2.2.1.2.2.1, x.2.2.2.2.2.2.2.1.2.1, x.2.2.2.2.2.2.2.1.2.2.1, x.2.2.2.2.2.2.2.2.1)
  got x := x.2.1.2.1
  did x := x.2.2.2.2.2.1
  enc x a d := match a with | Sum.inl (b) => Sum.inl ((((), b.1, ()), ((x.2.1.1, x.2.1.2.1, (), b.2.1, ()), ((), ()), (x.2.2.2.1.1, ()), ((), 1, b.2.2.1, ()), d, ((), 1, b.2.2.2, ()), ()))) | Sum.inr (b) => Sum.inr (Sum.inl ((((), false, ()), ((x.2.1.1, x.2.1.2.1, (), b.1, ()), ((), ()), (x.2.2.2.1.1, ()), ((), b.2.1, b.2.2.1, ()), d, ((), 1, b.2.2.2, ()), ()))))
  stop x d := Sum.inr (Sum.inr ((((), ()), ((x.2.1.1, x.2.1.2.1, (), (), ()), (), (), (), d, ()))))
theorem holdFL0_raw (sp_none : none_T) (sp_find : find_T) (sp_latch : latch_T) (sp_around : around_T) (sp_ordWithin : ordWithin_T) (sp_free : free_T) (sp_fuseC1 : fuseC1_T) (v1 : Int) (v2 : List Int) (c : Cfg) (got : List Int) (held : List Int) (a : Int) (xw : Int) (xr : Int) (did : List Acc) (v20 : Int) (v21 : Int) (v23 : Int) (v24 : Int) (v25 : List Int) : runW 5 Tryz.f99 0 [0, 1, 2, 3, 8, 10, 11] holdFL0vs holdFL0os holdFL0fin [(74, none_C sp_none), (79, find_C sp_find), (71, latch_C sp_latch), (118, around_C sp_around), (83, ordWithin_C sp_ordWithin), (28, free_C sp_free), (107, fuseC1_C sp_fuseC1)] [] [] ((((), v1, v2, ((), (), (), ()), (), (), (), ()), ((c, got, (), held, ()), ((), ()), (a, ()), ((), xw, xr, ()), did, ((), v20, v21, ()), ((), v23, v24, ()), v25, ())) : VhL holdFL0vs × OShL holdFL0os) = ((sp_latch (((), v25, ()), (c, got, (), held, ()), did, ())).bind fun val => selim val (fun val => (sp_find (((), v1, ()), (val.2.1.1, val.2.1.2.1, (), val.2.1.2.2.2.1, ()), val.2.2.1, ())).bind fun val => selim val (fun val => (sp_none ((((), val.1.1.2.1, val.1.1.2.2.1, ()), ()), (val.2.1.1, val.2.1.2.1, (), val.2.1.2.2.2.1, ()), val.2.2.1, ())).bind fun val_1 => selim val_1 (fun val_2 => bif val_2.1.1 then some (Sum.inr (Sum.inr (Sum.inl (((), false, ()), (val_2.2.1.1, val_2.2.1.2.1, (), val_2.2.1.2.2.2.1, ()), ((), ()), (a, ()), ((), xw, xr, ()), val_2.2.2.1, ((), val.1.1.2.1, val.1.1.2.2.1, ()), ())))) else (sp_fuseC1 (((), (), (), ()), ((), ()), (a, ()), ((), xw, xr, ()), (val_2.2.1.1, val_2.2.1.2.1, (), val_2.2.1.2.2.2.1, ()), val_2.2.2.1, ())).bind fun val_3 => selim val_3 (fun val_4 => bif val_4.1.1 then some (Sum.inr (Sum.inl (((), false, ()), (val_4.2.2.2.2.1.1, val_4.2.2.2.2.1.2.1, (), val_4.2.2.2.2.1.2.2.2.1, ()), ((), ()), (val_4.2.2.1.1, ()), ((), val_4.2.2.2.1.2.1, val_4.2.2.2.1.2.2.1, ()), val_4.2.2.2.2.2.1, ((), val.1.1.2.1, val.1.1.2.2.1, ()), ()))) else (sp_around (((), ((), val.1.1.2.1, val.1.1.2.2.1, ()), ()), (val_4.2.2.2.2.1.1, val_4.2.2.2.2.1.2.1, (), val_4.2.2.2.2.1.2.2.2.1, ()), val_4.2.2.2.2.2.1, ())).bind fun val_5 => selim val_5 (fun val_6 => bif decide (List.length val_6.2.2.2.1 + v2.length ≤ 1000000000) then (sp_ordWithin ((val_6.2.2.2.1 ++ v2, val_6.2.1.2.2.2.1, ()), ())).bind fun val_7 => bif val_7.1.1 then some (Sum.inr (Sum.inl (((), true, ()), (val_6.2.1.1, val_6.2.1.2.1, (), val_6.2.1.2.2.2.1, ()), ((), ()), (val_4.2.2.1.1, ()), ((), val_4.2.2.2.1.2.1, val_4.2.2.2.1.2.2.1, ()), val_6.2.2.1, ((), val.1.1.2.1, val.1.1.2.2.1, ()), ()))) else (sp_free (((), ()), (val_6.2.1.1, val_6.2.1.2.1, (), val_6.2.1.2.2.2.1, ()), val_6.2.2.1, ())).bind fun val_8 => selim val_8 (fun val_9 => some (Sum.inl (((), v1, v2, ((), (), (), ()), (), (), (), ()), (val_9.2.1.1, val_9.2.1.2.1, (), val_9.2.1.2.2.2.1, ()), ((), ()), (val_4.2.2.1.1, ()), ((), val_4.2.2.2.1.2.1, val_4.2.2.2.1.2.2.1, ()), val_9.2.2.1, ((), v20, v21, ()), ((), val.1.1.2.1, val.1.1.2.2.1, ()), val_6.2.2.2.1 ++ v2, ()))) fun val => some (Sum.inr (Sum.inr (Sum.inr (((), ()), (val.2.1.1, val.2.1.2.1, (), (), ()), (), (), (), val.2.2.1, ())))) else none) fun val => some (Sum.inr (Sum.inr (Sum.inr (((), ()), (val.2.1.1, val.2.1.2.1, (), (), ()), (), (), (), val.2.2.1, ()))))) fun val => some (Sum.inr (Sum.inr (Sum.inr (((), ()), (val.2.2.2.2.1.1, val.2.2.2.2.1.2.1, (), (), ()), (), (), (), val.2.2.2.2.2.1, ()))))) fun val => some (Sum.inr (Sum.inr (Sum.inr (((), ()), (val.2.1.1, val.2.1.2.1, (), (), ()), (), (), (), val.2.2.1, ()))))) fun val => some (Sum.inr (Sum.inr (Sum.inr (((), ()), (val.2.1.1, val.2.1.2.1, (), (), ()), (), (), (), val.2.2.1, ()))))) fun val => some (Sum.inr (Sum.inr (Sum.inr (((), ()), (val.2.1.1, val.2.1.2.1, (), (), ()), (), (), (), val.2.2.1, ()))))) := by kernel_rfl
theorem holdFL0_ok : LOk Tryz.prog gl 5 (LCon.of Tryz.f99.ntmps [0, 1, 2, 3, 8, 10, 11] holdFL0vs holdFL0os holdFL0fin (Ifc.spec holdFL0I)) (getL (body Tryz.f99) 0) := by
  refine lwk (Lc := []) (nh := []) (G := [(74, none_C (Ifc.spec noneI)), (79, find_C (Ifc.spec findI)), (71, latch_C (Ifc.spec latchI)), (118, around_C (Ifc.spec aroundI)), (83, ordWithin_C (Ifc.spec ordWithinI)), (28, free_C (Ifc.spec freeI)), (107, fuseC1_C (Ifc.spec fuseC1I))]) (GOk.cons none_g none_ok (GOk.cons find_g find_ok (GOk.cons latch_g latch_ok (GOk.cons around_g around_ok (GOk.cons ordWithin_g ordWithin_ok (GOk.cons free_g free_ok (GOk.cons fuseC1_g fuseC1_ok (GOk.nil)))))))) (noloopN (by kernel_rfl)) (Fin.or_ok (Fin.one_ok _ _ _ _) (Fin.or_ok (Fin.one_ok _ _ _ _) (Fin.pan_ok _ _ _))) ?_
  rintro ⟨⟨_, v1, v2, ⟨_, _, _, _⟩, _, _, _, _⟩, ⟨⟨c, got, _, held, _⟩, ⟨_, _⟩, ⟨a, _⟩, ⟨_, xw, xr, _⟩, did, ⟨_, v20, v21, _⟩, ⟨_, v23, v24, _⟩, v25, _⟩⟩ y hy
  refine ⟨_, loopT_ok (eX := fun (st : List Int × Int × Int × Int × Int × List Int) (d : List Acc) => (let held := st.1; let xw := st.2.1; let xr := st.2.2.1; let v23 := st.2.2.2.1; let v24 := st.2.2.2.2.1; let v25 := st.2.2.2.2.2; (((), v1, v2, ((), (), (), ()), (), (), (), ()), ((c, got, (), held, ()), ((), ()), (a, ()), ((), xw, xr, ()), d, ((), v20, v21, ()), ((), v23, v24, ()), v25, ())) : VhL holdFL0vs × OShL holdFL0os)) (body := holdFL0Step v1 v2 c got a v20 v21) (fun st d => ?_) _ (held, xw, xr, v23, v24, v25) did y hy⟩
  obtain ⟨held, xw, xr, v23, v24, v25⟩ := st
  refine (holdFL0_raw (Ifc.spec noneI) (Ifc.spec findI) (Ifc.spec latchI) (Ifc.spec aroundI) (Ifc.spec ordWithinI) (Ifc.spec freeI) (Ifc.spec fuseC1I) v1 v2 c got held a xw xr d v20 v21 v23 v24 v25).trans ?_
  unfold holdFL0Step
  repeat' (first | refine cond_out (fun _ => ?_) (fun _ => ?_) | (refine (retI (by with_reducible rfl)).trans ?_; try dsimp only [selim, cond_true, cond_false, Bool.not_true, Bool.not_false, one, none1, mI, noneI, findI, latchI, aroundI, ordWithinI, freeI, fuseC1I]) | (refine bindG (by with_reducible rfl) ?_; try dsimp only [selim, cond_true, cond_false, Bool.not_true, Bool.not_false, one, none1, mI, noneI, findI, latchI, aroundI, ordWithinI, freeI, fuseC1I]) | (refine bindI rfl rfl (fun _ _ => ?_) (fun _ => rfl); try dsimp only [selim, cond_true, cond_false, Bool.not_true, Bool.not_false, one, none1, mI, noneI, findI, latchI, aroundI, ordWithinI, freeI, fuseC1I]) | rfl)
def holdFTr (n : Int) (more : List Int) (c : Cfg) (got : List Int) (held : List Int) (a : Int) (xw : Int) (xr : Int) : T ((Int × Bool × List Int × Int) ⊕ (Int × List Int × Int × Int)) :=
 (findTr n c got held).bind fun x0 =>
 bif x0 == 0 then
 .ret (Sum.inr ((x0, held, xw, xr)))
 else
 (aroundTr 1 x0 c got held).bind fun x2 =>
 bif decide (x2.length + more.length ≤ 1000000000) then
 (T.loop (holdFL0Step n more c got a 0 0) (got.length + 10) (held, xw, xr, 1, x0, x2 ++ more)).bind fun b3 => selim b3
 (fun x3 => .ret (Sum.inl ((x3.2.2.2, x3.1, x3.2.1, x3.2.2.1))))
 (fun y3 => .ret (Sum.inr ((y3.2.2.2, y3.1, y3.2.1, y3.2.2.1))))
 else
 .bot
@[reducible] def holdFI : Ifc (VhL [pm, vi, .s (.lent .int), .clo 107 [.ptr 1 0, .ptr 2 0, .ptr 3 0]] × OShL cdj5q0) ((VhL [rc, vb] × OShL cdj5q3) ⊕ ((VhL [rc, vb] × OShL cdj5q0) ⊕ (VhL [.agg []] × OShL cdj5q4))) where
  α := (Int × Bool × List Int × Int) ⊕ (Int × List Int × Int × Int)
  tr x := holdFTr x.1.2.1 x.1.2.2.1 x.2.1.1 x.2.1.2.1 x.2.1.2.2.2.1 x.2.2.2.1.1 x.2.2.2.2.1.2.1 x.2.2.2.2.1.2.2.1
  got x := x.2.1.2.1
  did x := x.2.2.2.2.2.1
  enc x a d := match a with | Sum.inl (b) => Sum.inl (((((), 1, b.1, ()), b.2.1, ()), ((x.2.1.1, x.2.1.2.1, (), b.2.2.1, ()), ((), ()), (x.2.2.2.1.1, ()), ((), 1, b.2.2.2, ()), d, ()))) | Sum.inr (b) => Sum.inr (Sum.inl (((((), 1, b.1, ()), false, ()), ((x.2.1.1, x.2.1.2.1, (), b.2.1, ()), ((), ()), (x.2.2.2.1.1, ()), ((), b.2.2.1, b.2.2.2, ()), d, ()))))
  stop x d := Sum.inr (Sum.inr ((((), ()), ((x.2.1.1, x.2.1.2.1, (), (), ()), (), (), (), d, ()))))
abbrev holdF_T : Type := VhL [pm, vi, .s (.lent .int), .clo 107 [.ptr 1 0, .ptr 2 0, .ptr 3 0]] × OShL cdj5q0 → Option ((VhL [rc, vb] × OShL cdj5q3) ⊕ ((VhL [rc, vb] × OShL cdj5q0) ⊕ (VhL [.agg []] × OShL cdj5q4)))
noncomputable abbrev holdF_C (sp : holdF_T) : Con := Con.ofF [pm, vi, .s (.lent .int), .clo 107 [.ptr 1 0, .ptr 2 0, .ptr 3 0]] cdj5q0 (rf2 Tryz.f99 5 [rc, vb] cdj5q3 [rc, vb] cdj5q0 cdj5q4) sp
theorem holdF_g : Callable Tryz.prog 99 := ⟨Tryz.f99, body Tryz.f99, by kernel_rfl, by kernel_rfl, by kernel_rfl⟩
theorem holdF_raw (sp_none : none_T) (sp_find : find_T) (sp_latch : latch_T) (sp_around : around_T) (sp_ordWithin : ordWithin_T) (sp_free : free_T) (sp_fuseC1 : fuseC1_T) (sp_holdFL0 : VhL holdFL0vs × OShL holdFL0os → Option holdFL0fin.Y) (n : Int) (more : List Int) (c : Cfg) (got : List Int) (held : List Int) (a : Int) (xw : Int) (xr : Int) (did : List Acc) : runF Tryz.f99 [pm, vi, .s (.lent .int), .clo 107 [.ptr 1 0, .ptr 2 0, .ptr 3 0]] cdj5q0 (rf2 Tryz.f99 5 [rc, vb] cdj5q3 [rc, vb] cdj5q0 cdj5q4) [(74, none_C sp_none), (79, find_C sp_find), (71, latch_C sp_latch), (118, around_C sp_around), (83, ordWithin_C sp_ordWithin), (28, free_C sp_free), (107, fuseC1_C sp_fuseC1)] [(5, LCon.of Tryz.f99.ntmps [0, 1, 2, 3, 8, 10, 11] holdFL0vs holdFL0os holdFL0fin sp_holdFL0)] [] ((((), n, more, ((), (), (), ()), ()), ((c, got, (), held, ()), ((), ()), (a, ()), ((), xw, xr, ()), did, ())) : VhL [pm, vi, .s (.lent .int), .clo 107 [.ptr 1 0, .ptr 2 0, .ptr 3 0]] × OShL cdj5q0) = ((sp_find (((), n, ()), (c, got, (), held, ()), did, ())).bind fun val => selim val (fun val => (sp_none ((((), val.1.1.2.1, val.1.1.2.2.1, ()), ()), (val.2.1.1, val.2.1.2.1, (), val.2.1.2.2.2.1, ()), val.2.2.1, ())).bind fun val_1 => selim val_1 (fun val_2 => bif val_2.1.1 then some (Sum.inr (Sum.inl ((((), val.1.1.2.1, val.1.1.2.2.1, ()), false, ()), (val_2.2.1.1, val_2.2.1.2.1, (), val_2.2.1.2.2.2.1, ()), ((), ()), (a, ()), ((), xw, xr, ()), val_2.2.2.1, ()))) else (sp_around (((), ((), val.1.1.2.1, val.1.1.2.2.1, ()), ()), (val_2.2.1.1, val_2.2.1.2.1, (), val_2.2.1.2.2.2.1, ()), val_2.2.2.1, ())).bind fun val_3 => selim val_3 (fun val_4 => bif decide (List.length val_4.2.2.2.1 + more.length ≤ 1000000000) then (sp_holdFL0 (((), n, more, ((), (), (), ()), (), (), (), ()), (val_4.2.1.1, val_4.2.1.2.1, (), val_4.2.1.2.2.2.1, ()), ((), ()), (a, ()), ((), xw, xr, ()), val_4.2.2.1, ((), 0, 0, ()), ((), val.1.1.2.1, val.1.1.2.2.1, ()), val_4.2.2.2.1 ++ more, ())).bind fun val => selim val (fun val => some (Sum.inl ((((), val.2.2.2.2.2.2.1.2.1, val.2.2.2.2.2.2.1.2.2.1, ()), val.1.2.1, ()), (val.2.1.1, val.2.1.2.1, (), val.2.1.2.2.2.1, ()), ((), ()), (val.2.2.2.1.1, ()), ((), val.2.2.2.2.1.2.1, val.2.2.2.2.1.2.2.1, ()), val.2.2.2.2.2.1, ()))) fun val => selim val (fun val => some (Sum.inr (Sum.inl ((((), val.2.2.2.2.2.2.1.2.1, val.2.2.2.2.2.2.1.2.2.1, ()), val.1.2.1, ()), (val.2.1.1, val.2.1.2.1, (), val.2.1.2.2.2.1, ()), ((), ()), (val.2.2.2.1.1, ()), ((), val.2.2.2.2.1.2.1, val.2.2.2.2.1.2.2.1, ()), val.2.2.2.2.2.1, ())))) fun val => some (Sum.inr (Sum.inr (((), ()), (val.2.1.1, val.2.1.2.1, (), (), ()), (), (), (), val.2.2.2.2.2.1, ()))) else none) fun val => some (Sum.inr (Sum.inr (((), ()), (val.2.1.1, val.2.1.2.1, (), (), ()), (), (), (), val.2.2.1, ())))) fun val => some (Sum.inr (Sum.inr (((), ()), (val.2.1.1, val.2.1.2.1, (), (), ()), (), (), (), val.2.2.1, ())))) fun val => some (Sum.inr (Sum.inr (((), ()), (val.2.1.1, val.2.1.2.1, (), (), ()), (), (), (), val.2.2.1, ())))) := by kernel_rfl
theorem holdF_ok : Sound Tryz.prog gl 99 (holdF_C (Ifc.spec holdFI)) := by
  refine cfk (fn := Tryz.f99) (G := [(74, none_C (Ifc.spec noneI)), (79, find_C (Ifc.spec findI)), (71, latch_C (Ifc.spec latchI)), (118, around_C (Ifc.spec aroundI)), (83, ordWithin_C (Ifc.spec ordWithinI)), (28, free_C (Ifc.spec freeI)), (107, fuseC1_C (Ifc.spec fuseC1I))]) (GOk.cons none_g none_ok (GOk.cons find_g find_ok (GOk.cons latch_g latch_ok (GOk.cons around_g around_ok (GOk.cons ordWithin_g ordWithin_ok (GOk.cons free_g free_ok (GOk.cons fuseC1_g fuseC1_ok (GOk.nil)))))))) (by kernel_rfl) (by kernel_rfl) (Lc := [(5, LCon.of Tryz.f99.ntmps [0, 1, 2, 3, 8, 10, 11] holdFL0vs holdFL0os holdFL0fin (Ifc.spec holdFL0I))]) (nh := []) (lcok (bs := [getL (body Tryz.f99) 0]) (by kernel_rfl) ⟨lone_ok (q := (5, LCon.of Tryz.f99.ntmps [0, 1, 2, 3, 8, 10, 11] holdFL0vs holdFL0os holdFL0fin (Ifc.spec holdFL0I))) (by kernel_rfl) holdFL0_ok, trivial⟩) ?_
  rintro ⟨⟨_, n, more, ⟨_, _, _, _⟩, _⟩, ⟨⟨c, got, _, held, _⟩, ⟨_, _⟩, ⟨a, _⟩, ⟨_, xw, xr, _⟩, did, _⟩⟩
  refine (holdF_raw (Ifc.spec noneI) (Ifc.spec findI) (Ifc.spec latchI) (Ifc.spec aroundI) (Ifc.spec ordWithinI) (Ifc.spec freeI) (Ifc.spec fuseC1I) (Ifc.spec holdFL0I) n more c got held a xw xr did).trans ?_
  show _ = outG (holdFI.enc (((), n, more, ((), (), (), ()), ()), ((c, got, (), held, ()), ((), ()), (a, ()), ((), xw, xr, ()), did, ()))) (holdFI.stop (((), n, more, ((), (), (), ()), ()), ((c, got, (), held, ()), ((), ()), (a, ()), ((), xw, xr, ()), did, ()))) ((holdFTr n more c got held a xw xr).exec got did)
  unfold holdFTr
  refine bindI rfl rfl (fun x0 d0 => ?_) (fun d => rfl)
  dsimp only [selim, cond_true, cond_false, Bool.not_true, Bool.not_false, one, none1, mI, noneI, findI, latchI, aroundI, ordWithinI, freeI, fuseC1I, holdFL0I]
  refine (retI rfl).trans ?_
  dsimp only [selim, cond_true, cond_false, Bool.not_true, Bool.not_false, one, none1, mI, noneI, findI, latchI, aroundI, ordWithinI, freeI, fuseC1I, holdFL0I]
  refine cond_out (fun _ => ?_) (fun _ => ?_)
  · rfl
  · refine bindI rfl rfl (fun x2 d2 => ?_) (fun d => rfl)
    dsimp only [selim, cond_true, cond_false, Bool.not_true, Bool.not_false, one, none1, mI, noneI, findI, latchI, aroundI, ordWithinI, freeI, fuseC1I, holdFL0I]
    refine cond_out (fun _ => ?_) (fun _ => ?_)
    · refine bindI rfl rfl (fun b3 d3 => ?_) (fun d => rfl)
      rcases b3 with x3 | y3
      · dsimp only [selim, cond_true, cond_false, Bool.not_true, Bool.not_false, one, none1, mI, noneI, findI, latchI, aroundI, ordWithinI, freeI, fuseC1I, holdFL0I]
        try (first | refine (cond_t rfl).trans ?_ | refine (cond_f rfl).trans ?_)
        rfl
      · dsimp only [selim, cond_true, cond_false, Bool.not_true, Bool.not_false, one, none1, mI, noneI, findI, latchI, aroundI, ordWithinI, freeI, fuseC1I, holdFL0I]
        try (first | refine (cond_t rfl).trans ?_ | refine (cond_f rfl).trans ?_)
        rfl
    · rfl
end Go.Ax.Cd
/- The package code by contracts (printed by wip/tools/con3.py). -/
namespace Go.Ax.Cd
open Go.Proofs
set_option linter.unusedVariables false
set_option maxRecDepth 100000
abbrev cdj6q0 : List OSh := [.box [.e (.st .cfg), .e (.sl .int), .own 1, .sln .int], .arr (.st .acc), .box [.e (.st .res)]]
abbrev lookNL0vs : List Vh := [pm, vi, .clo 1000048 [.ptr 0 0], .s (.ptr 2 0)]
abbrev lookNL0os : List OSh := cdj6q0
noncomputable abbrev lookNL0fin : Fin := ((Fin.one 2 Tryz.f46.ntmps .ret [6] [.s (.ptr 2 0)] cdj6q0).or (Fin.pan 2 59 (.agg []) machP))
def lookNL0Step (v1 : Int) (c : Cfg) (got : List Int) (held : List Int) (v9 : Res) (st : Unit) : T ((Unit) ⊕ (Res)) :=
 (seeTr v1 c got held).bind fun x0 =>
 (findTr v1 c got held).bind fun x1 =>
 bif x1 == 0 then
 .ret (Sum.inr (Res.mk 2 0 [] [] []))
 else
 (endsTr 1 x1 c got held).bind fun x3 =>
 (seeTr v1 c got held).bind fun x4 =>
 bif x4 == x0 then
 .ret (Sum.inr x3)
 else
 .ret (Sum.inl ())
@[reducible] def lookNL0I : Ifc (VhL lookNL0vs × OShL lookNL0os) lookNL0fin.Y where
  α := Res
  tr x := T.loop (lookNL0Step x.1.2.1 x.2.1.1 x.2.1.2.1 x.2.1.2.2.2.1 x.2.2.2.1.1) (x.2.1.2.1.length + 10) ()
  got x := x.2.1.2.1
  did x := x.2.2.1
  enc x a d := Sum.inl ((((), ()), ((x.2.1.1, x.2.1.2.1, (), x.2.1.2.2.2.1, ()), d, (a, ()), ())))
  stop x d := Sum.inr ((((), ()), ((x.2.1.1, x.2.1.2.1, (), (), ()), d, ())))
theorem lookNL0_raw (sp_see : see_T) (sp_none : none_T) (sp_find : find_T) (sp_failed : failed_T) (sp_known : known_T) (sp_ends : ends_T) (v1 : Int) (c : Cfg) (got : List Int) (held : List Int) (did : List Acc) (v9 : Res) : runW 2 Tryz.f46 0 [0, 1, 2, 6] lookNL0vs lookNL0os lookNL0fin [(90, see_C sp_see), (74, none_C sp_none), (79, find_C sp_find), (51, failed_C sp_failed), (78, known_C sp_known), (48, ends_C sp_ends)] [] [] ((((), v1, ((), ()), (), ()), ((c, got, (), held, ()), did, (v9, ()), ())) : VhL lookNL0vs × OShL lookNL0os) = ((sp_see (((), v1, ()), (c, got, (), held, ()), did, ())).bind fun val => selim val (fun val => (sp_find (((), v1, ()), (val.2.1.1, val.2.1.2.1, (), val.2.1.2.2.2.1, ()), val.2.2.1, ())).bind fun val_1 => selim val_1 (fun val_2 => (sp_none ((((), val_2.1.1.2.1, val_2.1.1.2.2.1, ()), ()), (val_2.2.1.1, val_2.2.1.2.1, (), val_2.2.1.2.2.2.1, ()), val_2.2.2.1, ())).bind fun val_3 => selim val_3 (fun val_4 => bif val_4.1.1 then (sp_failed ((2, ()), ())).bind fun val => some (Sum.inr (Sum.inl (((), ()), (val_4.2.1.1, val_4.2.1.2.1, (), val_4.2.1.2.2.2.1, ()), val_4.2.2.1, (val.1.1, ()), ()))) else (sp_ends (((), ((), val_2.1.1.2.1, val_2.1.1.2.2.1, ()), ()), (val_4.2.1.1, val_4.2.1.2.1, (), val_4.2.1.2.2.2.1, ()), val_4.2.2.1, ())).bind fun val_5 => selim val_5 (fun val_6 => (sp_see (((), v1, ()), (val_6.2.1.1, val_6.2.1.2.1, (), val_6.2.1.2.2.2.1, ()), val_6.2.2.1, ())).bind fun val_7 => selim val_7 (fun val_8 => bif val_8.1.1 == val.1.1 then some (Sum.inr (Sum.inl (((), ()), (val_8.2.1.1, val_8.2.1.2.1, (), val_8.2.1.2.2.2.1, ()), val_8.2.2.1, (val_6.1.1, ()), ()))) else some (Sum.inl (((), v1, ((), ()), (), ()), (val_8.2.1.1, val_8.2.1.2.1, (), val_8.2.1.2.2.2.1, ()), val_8.2.2.1, (v9, ()), ()))) fun val => some (Sum.inr (Sum.inr (((), ()), (val.2.1.1, val.2.1.2.1, (), (), ()), val.2.2.1, ())))) fun val => some (Sum.inr (Sum.inr (((), ()), (val.2.1.1, val.2.1.2.1, (), (), ()), val.2.2.1, ())))) fun val => some (Sum.inr (Sum.inr (((), ()), (val.2.1.1, val.2.1.2.1, (), (), ()), val.2.2.1, ())))) fun val => some (Sum.inr (Sum.inr (((), ()), (val.2.1.1, val.2.1.2.1, (), (), ()), val.2.2.1, ())))) fun val => some (Sum.inr (Sum.inr (((), ()), (val.2.1.1, val.2.1.2.1, (), (), ()), val.2.2.1, ())))) := by kernel_rfl
theorem lookNL0_ok : LOk Tryz.prog gl 2 (LCon.of Tryz.f46.ntmps [0, 1, 2, 6] lookNL0vs lookNL0os lookNL0fin (Ifc.spec lookNL0I)) (getL (body Tryz.f46) 0) := by
  refine lwk (Lc := []) (nh := []) (G := [(90, see_C (Ifc.spec seeI)), (74, none_C (Ifc.spec noneI)), (79, find_C (Ifc.spec findI)), (51, failed_C (Ifc.spec failedI)), (78, known_C (Ifc.spec knownI)), (48, ends_C (Ifc.spec endsI))]) (GOk.cons see_g see_ok (GOk.cons none_g none_ok (GOk.cons find_g find_ok (GOk.cons failed_g failed_ok (GOk.cons known_g known_ok (GOk.cons ends_g ends_ok (GOk.nil))))))) (noloopN (by kernel_rfl)) (Fin.or_ok (Fin.one_ok _ _ _ _) (Fin.pan_ok _ _ _)) ?_
  rintro ⟨⟨_, v1, ⟨_, _⟩, _, _⟩, ⟨⟨c, got, _, held, _⟩, did, ⟨v9, _⟩, _⟩⟩ y hy
  refine ⟨_, loopT_ok (eX := fun (st : Unit) (d : List Acc) => ((((), v1, ((), ()), (), ()), ((c, got, (), held, ()), d, (v9, ()), ())) : VhL lookNL0vs × OShL lookNL0os)) (body := lookNL0Step v1 c got held v9) (fun st d => ?_) _ () did y hy⟩
  skip
  refine (lookNL0_raw (Ifc.spec seeI) (Ifc.spec noneI) (Ifc.spec findI) (Ifc.spec failedI) (Ifc.spec knownI) (Ifc.spec endsI) v1 c got held d v9).trans ?_
  unfold lookNL0Step
  repeat' (first | refine cond_out (fun _ => ?_) (fun _ => ?_) | (refine (retI (by with_reducible rfl)).trans ?_; try dsimp only [selim, cond_true, cond_false, Bool.not_true, Bool.not_false, one, none1, mI, seeI, noneI, findI, failedI, knownI, endsI]) | (refine bindI rfl rfl (fun _ _ => ?_) (fun _ => rfl); try dsimp only [selim, cond_true, cond_false, Bool.not_true, Bool.not_false, one, none1, mI, seeI, noneI, findI, failedI, knownI, endsI]) | rfl)
def lookNTr (n : Int) (c : Cfg) (got : List Int) (held : List Int) : T (Res) :=
 (knownTr [n] c got held).bind fun x0 =>
 bif !x0 then
 .ret (Res.mk 2 0 [] [] [])
 else
 (T.loop (lookNL0Step n c got held (Res.mk 0 0 [] [] [])) (got.length + 10) ()).bind fun x1 =>
 .ret x1
@[reducible] def lookNI : Ifc (VhL [pm, vi, .clo 1000048 [.ptr 0 0]] × OShL mach) ((VhL [.s (.e (.st .res))] × OShL mach) ⊕ (VhL [.agg []] × OShL machP)) where
  α := Res
  tr x := lookNTr x.1.2.1 x.2.1.1 x.2.1.2.1 x.2.1.2.2.2.1
  got x := x.2.1.2.1
  did x := x.2.2.1
  enc x a d := Sum.inl (((a, ()), ((x.2.1.1, x.2.1.2.1, (), x.2.1.2.2.2.1, ()), d, ())))
  stop x d := Sum.inr ((((), ()), ((x.2.1.1, x.2.1.2.1, (), (), ()), d, ())))
abbrev lookN_T : Type := VhL [pm, vi, .clo 1000048 [.ptr 0 0]] × OShL mach → Option ((VhL [.s (.e (.st .res))] × OShL mach) ⊕ (VhL [.agg []] × OShL machP))
noncomputable abbrev lookN_C (sp : lookN_T) : Con := cq [pm, vi, .clo 1000048 [.ptr 0 0]] mach [.s (.e (.st .res))] mach machP sp
theorem lookN_g : Callable Tryz.prog 46 := ⟨Tryz.f46, body Tryz.f46, by kernel_rfl, by kernel_rfl, by kernel_rfl⟩
theorem lookN_raw (sp_see : see_T) (sp_none : none_T) (sp_find : find_T) (sp_failed : failed_T) (sp_known : known_T) (sp_ends : ends_T) (sp_lookNL0 : VhL lookNL0vs × OShL lookNL0os → Option lookNL0fin.Y) (n : Int) (c : Cfg) (got : List Int) (held : List Int) (did : List Acc) : runQ Tryz.f46 [pm, vi, .clo 1000048 [.ptr 0 0]] mach [.s (.e (.st .res))] mach machP [(90, see_C sp_see), (74, none_C sp_none), (79, find_C sp_find), (51, failed_C sp_failed), (78, known_C sp_known), (48, ends_C sp_ends)] [(3, LCon.of Tryz.f46.ntmps [0, 1, 2, 6] lookNL0vs lookNL0os lookNL0fin sp_lookNL0)] [] ((((), n, ((), ()), ()), ((c, got, (), held, ()), did, ())) : VhL [pm, vi, .clo 1000048 [.ptr 0 0]] × OShL mach) = ((sp_known (((), [n], ()), (c, got, (), held, ()), did, ())).bind fun val => selim val (fun val => bif !val.1.1 then (sp_failed ((2, ()), ())).bind fun val_1 => some (Sum.inl ((val_1.1.1, ()), (val.2.1.1, val.2.1.2.1, (), val.2.1.2.2.2.1, ()), val.2.2.1, ())) else (sp_lookNL0 (((), n, ((), ()), (), ()), (val.2.1.1, val.2.1.2.1, (), val.2.1.2.2.2.1, ()), val.2.2.1, (Res.mk 0 0 [] [] [], ()), ())).bind fun val => selim val (fun val => some (Sum.inl ((val.2.2.2.1.1, ()), (val.2.1.1, val.2.1.2.1, (), val.2.1.2.2.2.1, ()), val.2.2.1, ()))) fun val => some (Sum.inr (((), ()), (val.2.1.1, val.2.1.2.1, (), (), ()), val.2.2.1, ()))) fun val => some (Sum.inr (((), ()), (val.2.1.1, val.2.1.2.1, (), (), ()), val.2.2.1, ()))) := by kernel_rfl
theorem lookN_ok : Sound Tryz.prog gl 46 (lookN_C (Ifc.spec lookNI)) := by
  refine cqk (fn := Tryz.f46) (G := [(90, see_C (Ifc.spec seeI)), (74, none_C (Ifc.spec noneI)), (79, find_C (Ifc.spec findI)), (51, failed_C (Ifc.spec failedI)), (78, known_C (Ifc.spec knownI)), (48, ends_C (Ifc.spec endsI))]) (GOk.cons see_g see_ok (GOk.cons none_g none_ok (GOk.cons find_g find_ok (GOk.cons failed_g failed_ok (GOk.cons known_g known_ok (GOk.cons ends_g ends_ok (GOk.nil))))))) (by kernel_rfl) (by kernel_rfl) (Lc := [(3, LCon.of Tryz.f46.ntmps [0, 1, 2, 6] lookNL0vs lookNL0os lookNL0fin (Ifc.spec lookNL0I))]) (nh := []) (lcok (bs := [getL (body Tryz.f46) 0]) (by kernel_rfl) ⟨lone_ok (q := (3, LCon.of Tryz.f46.ntmps [0, 1, 2, 6] lookNL0vs lookNL0os lookNL0fin (Ifc.spec lookNL0I))) (by kernel_rfl) lookNL0_ok, trivial⟩) ?_
  rintro ⟨⟨_, n, ⟨_, _⟩, _⟩, ⟨⟨c, got, _, held, _⟩, did, _⟩⟩
  refine (lookN_raw (Ifc.spec seeI) (Ifc.spec noneI) (Ifc.spec findI) (Ifc.spec failedI) (Ifc.spec knownI) (Ifc.spec endsI) (Ifc.spec lookNL0I) n c got held did).trans ?_
  show _ = outG (lookNI.enc (((), n, ((), ()), ()), ((c, got, (), held, ()), did, ()))) (lookNI.stop (((), n, ((), ()), ()), ((c, got, (), held, ()), did, ()))) ((lookNTr n c got held).exec got did)
  unfold lookNTr
  repeat' (first | refine cond_out (fun _ => ?_) (fun _ => ?_) | (refine (retI (by with_reducible rfl)).trans ?_; try dsimp only [selim, cond_true, cond_false, Bool.not_true, Bool.not_false, one, none1, mI, seeI, noneI, findI, failedI, knownI, endsI, lookNL0I]) | (refine bindI rfl rfl (fun _ _ => ?_) (fun _ => rfl); try dsimp only [selim, cond_true, cond_false, Bool.not_true, Bool.not_false, one, none1, mI, seeI, noneI, findI, failedI, knownI, endsI, lookNL0I]) | rfl)
end Go.Ax.Cd
