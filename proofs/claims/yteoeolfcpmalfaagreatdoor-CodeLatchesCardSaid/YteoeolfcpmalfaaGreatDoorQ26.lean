/- The package code by contracts (printed by wip/tools/con3.py). -/
import Derived.Test.YteoeolfcpmalfaaGreatDoorQ14
import Derived.Test.YteoeolfcpmalfaaGreatDoorQ25
namespace Go.Ax.Cd
open Go.Proofs
set_option linter.unusedVariables false
set_option maxRecDepth 100000
abbrev latchL0vs : List Vh := [pm, .s (.sln .int), vi, vi]
abbrev latchL0os : List OSh := mach
noncomputable abbrev latchL0fin : Fin := ((Fin.one 2 Tryz.f71.ntmps (.exit 0) [] [] mach).or (Fin.pan 2 59 (.agg []) machP))
def latchL0Step (v1 : List Int) (v2 : Int) (c : Cfg) (got : List Int) (held : List Int) (st : Int) : T ((Int) ⊕ (Unit)) :=
 let v3 := st
 bif decide (v3 < v2) then
 bif inR v3 v1.length then
 (T.ask (Acc.mk 5 (rdE EK.int v1 v3) 0 0 0 0) T.ret).bind fun x0 =>
 .ret (Sum.inl (w64 (v3 + 1)))
 else
 .bot
 else
 .ret (Sum.inr ())
@[reducible] def latchL0I : Ifc (VhL latchL0vs × OShL latchL0os) latchL0fin.Y where
  α := Unit
  tr x := T.loop (latchL0Step x.1.2.1 x.1.2.2.1 x.2.1.1 x.2.1.2.1 x.2.1.2.2.2.1) (x.2.1.2.1.length + 10) x.1.2.2.2.1
  got x := x.2.1.2.1
  did x := x.2.2.1
  enc x a d := Sum.inl (((), ((x.2.1.1, x.2.1.2.1, (), x.2.1.2.2.2.1, ()), d, ())))
  stop x d := Sum.inr ((((), ()), ((x.2.1.1, x.2.1.2.1, (), (), ()), d, ())))
theorem latchL0_raw (sp_do : do_T) (sp_ordSet : ordSet_T) (v1 : List Int) (v2 : Int) (v3 : Int) (c : Cfg) (got : List Int) (held : List Int) (did : List Acc) : runW 2 Tryz.f71 0 [0, 14, 15, 16] latchL0vs latchL0os latchL0fin [(26, do_C sp_do), (112, ordSet_C sp_ordSet)] [] [] ((((), v1, v2, v3, ()), ((c, got, (), held, ()), did, ())) : VhL latchL0vs × OShL latchL0os) = (bif decide (v3 < v2) then bif inR v3 v1.length then (sp_do (((), Acc.mk 5 (rdE EK.int v1 v3) 0 0 0 0, ()), (c, got, (), held, ()), did, ())).bind fun val => selim val (fun val => some (Sum.inl (((), v1, v2, w64 (v3 + 1), ()), (val.2.1.1, val.2.1.2.1, (), val.2.1.2.2.2.1, ()), val.2.2.1, ()))) fun val => some (Sum.inr (Sum.inr (((), ()), (val.2.1.1, val.2.1.2.1, (), (), ()), val.2.2.1, ()))) else none
else some (Sum.inr (Sum.inl ((), (c, got, (), held, ()), did, ())))) := by kernel_rfl
theorem latchL0_ok : LOk Tryz.prog gl 2 (LCon.of Tryz.f71.ntmps [0, 14, 15, 16] latchL0vs latchL0os latchL0fin (Ifc.spec latchL0I)) (getL (body Tryz.f71) 0) := by
  refine lwk (Lc := []) (nh := []) (G := [(26, do_C (Ifc.spec doI)), (112, ordSet_C (Ifc.spec ordSetI))]) (GOk.cons do_g do_ok (GOk.cons ordSet_g ordSet_ok (GOk.nil))) (noloopN (by kernel_rfl)) (Fin.or_ok (Fin.one_ok _ _ _ _) (Fin.pan_ok _ _ _)) ?_
  rintro ⟨⟨_, v1, v2, v3, _⟩, ⟨⟨c, got, _, held, _⟩, did, _⟩⟩ y hy
  refine ⟨_, loopT_ok (eX := fun (st : Int) (d : List Acc) => (let v3 := st; (((), v1, v2, v3, ()), ((c, got, (), held, ()), d, ())) : VhL latchL0vs × OShL latchL0os)) (body := latchL0Step v1 v2 c got held) (fun st d => ?_) _ v3 did y hy⟩
  revert st
  intro v3
  refine (latchL0_raw (Ifc.spec doI) (Ifc.spec ordSetI) v1 v2 v3 c got held d).trans ?_
  unfold latchL0Step
  repeat' (first | refine cond_out (fun _ => ?_) (fun _ => ?_) | (refine bindI rfl rfl (fun _ _ => ?_) (fun _ => rfl); try dsimp only [selim, cond_true, cond_false, Bool.not_true, Bool.not_false, one, none1, mI, doI, ordSetI]) | rfl)
def latchTr (l : List Int) (c : Cfg) (got : List Int) (held : List Int) : T (List Int) :=
 (T.gret (ordG l) ()).bind fun _ =>
 (T.loop (latchL0Step (ordSet l) (Int.ofNat (ordSet l).length) c got (ordSet l)) (got.length + 10) 0).bind fun _ =>
 .ret (ordSet l)
@[reducible] def latchI : Ifc (VhL [pm, .s (.lent .int)] × OShL mach) ((VhL [] × OShL mach) ⊕ (VhL [.agg []] × OShL machP)) where
  α := List Int
  tr x := latchTr x.1.2.1 x.2.1.1 x.2.1.2.1 x.2.1.2.2.2.1
  got x := x.2.1.2.1
  did x := x.2.2.1
  enc x a d := Sum.inl (((), ((x.2.1.1, x.2.1.2.1, (), a, ()), d, ())))
  stop x d := Sum.inr ((((), ()), ((x.2.1.1, x.2.1.2.1, (), (), ()), d, ())))
abbrev latch_T : Type := VhL [pm, .s (.lent .int)] × OShL mach → Option ((VhL [] × OShL mach) ⊕ (VhL [.agg []] × OShL machP))
noncomputable abbrev latch_C (sp : latch_T) : Con := cq [pm, .s (.lent .int)] mach [] mach machP sp
theorem latch_g : Callable Tryz.prog 71 := ⟨Tryz.f71, body Tryz.f71, by kernel_rfl, by kernel_rfl, by kernel_rfl⟩
theorem latch_raw (sp_do : do_T) (sp_ordSet : ordSet_T) (sp_latchL0 : VhL latchL0vs × OShL latchL0os → Option latchL0fin.Y) (l : List Int) (c : Cfg) (got : List Int) (held : List Int) (did : List Acc) : runQ Tryz.f71 [pm, .s (.lent .int)] mach [] mach machP [(26, do_C sp_do), (112, ordSet_C sp_ordSet)] [(2, LCon.of Tryz.f71.ntmps [0, 14, 15, 16] latchL0vs latchL0os latchL0fin sp_latchL0)] [] ((((), l, ()), ((c, got, (), held, ()), did, ())) : VhL [pm, .s (.lent .int)] × OShL mach) = ((sp_ordSet ((l, ()), ())).bind fun val => (sp_latchL0 (((), val.1.1, Int.ofNat (List.length val.1.1), 0, ()), (c, got, (), val.1.1, ()), did, ())).bind fun val => selim val (fun val => some (Sum.inl ((), (val.2.1.1, val.2.1.2.1, (), val.2.1.2.2.2.1, ()), val.2.2.1, ()))) fun val => some (Sum.inr (((), ()), (val.2.1.1, val.2.1.2.1, (), (), ()), val.2.2.1, ()))) := by kernel_rfl
theorem latch_ok : Sound Tryz.prog gl 71 (latch_C (Ifc.spec latchI)) := by
  refine cqk (fn := Tryz.f71) (G := [(26, do_C (Ifc.spec doI)), (112, ordSet_C (Ifc.spec ordSetI))]) (GOk.cons do_g do_ok (GOk.cons ordSet_g ordSet_ok (GOk.nil))) (by kernel_rfl) (by kernel_rfl) (Lc := [(2, LCon.of Tryz.f71.ntmps [0, 14, 15, 16] latchL0vs latchL0os latchL0fin (Ifc.spec latchL0I))]) (nh := []) (lcok (bs := [getL (body Tryz.f71) 0]) (by kernel_rfl) ⟨lone_ok (q := (2, LCon.of Tryz.f71.ntmps [0, 14, 15, 16] latchL0vs latchL0os latchL0fin (Ifc.spec latchL0I))) (by kernel_rfl) latchL0_ok, trivial⟩) ?_
  rintro ⟨⟨_, l, _⟩, ⟨⟨c, got, _, held, _⟩, did, _⟩⟩
  refine (latch_raw (Ifc.spec doI) (Ifc.spec ordSetI) (Ifc.spec latchL0I) l c got held did).trans ?_
  show _ = outG (latchI.enc (((), l, ()), ((c, got, (), held, ()), did, ()))) (latchI.stop (((), l, ()), ((c, got, (), held, ()), did, ()))) ((latchTr l c got held).exec got did)
  unfold latchTr
  repeat' (first | (refine bindG (by with_reducible rfl) ?_; try dsimp only [selim, cond_true, cond_false, Bool.not_true, Bool.not_false, one, none1, mI, doI, ordSetI, latchL0I]) | (refine bindI rfl rfl (fun _ _ => ?_) (fun _ => rfl); try dsimp only [selim, cond_true, cond_false, Bool.not_true, Bool.not_false, one, none1, mI, doI, ordSetI, latchL0I]) | rfl)
def addTr (c : Cfg) (got : List Int) (held : List Int) : T (Res × List Int) :=
 (latchTr [0] c got held).bind fun x0 =>
 (wordTr 0 c got x0).bind fun x1 =>
 bif decide (x1 > c.ids) then
 .ret (Res.mk 4 0 [] [] [], x0)
 else
 (takeTr 1 c got x0).bind fun x2 =>
 bif x2 == 0 then
 .ret (Res.mk 3 0 [] [] [], x0)
 else
 (storeTr 1 x2 0 (rdE EK.int [x1, 0, 0, 0] 0) c got x0).bind fun _ =>
 (storeTr 1 x2 (w64 (0 + 1)) (rdE EK.int [x1, 0, 0, 0] (w64 (0 + 1))) c got x0).bind fun _ =>
 (storeTr 1 x2 (w64 (w64 (0 + 1) + 1)) (rdE EK.int [x1, 0, 0, 0] (w64 (w64 (0 + 1) + 1))) c got x0).bind fun _ =>
 (storeTr 1 x2 (w64 (w64 (w64 (0 + 1) + 1) + 1)) (rdE EK.int [x1, 0, 0, 0] (w64 (w64 (w64 (0 + 1) + 1) + 1))) c got x0).bind fun _ =>
 (setTr 0 (w64 (x1 + 1)) c got x0).bind fun _ =>
 (setTr (w64 (x1 + 1)) x2 c got x0).bind fun _ =>
 .ret (Res.mk 0 x1 [] [] [], x0)
@[reducible] def addI : Ifc (VhL [pm] × OShL mach) ((VhL [.s (.e (.st .res))] × OShL mach) ⊕ (VhL [.agg []] × OShL machP)) where
  α := Res × List Int
  tr x := addTr x.2.1.1 x.2.1.2.1 x.2.1.2.2.2.1
  got x := x.2.1.2.1
  did x := x.2.2.1
  enc x a d := Sum.inl (((a.1, ()), ((x.2.1.1, x.2.1.2.1, (), a.2, ()), d, ())))
  stop x d := Sum.inr ((((), ()), ((x.2.1.1, x.2.1.2.1, (), (), ()), d, ())))
abbrev add_T : Type := VhL [pm] × OShL mach → Option ((VhL [.s (.e (.st .res))] × OShL mach) ⊕ (VhL [.agg []] × OShL machP))
noncomputable abbrev add_C (sp : add_T) : Con := cq [pm] mach [.s (.e (.st .res))] mach machP sp
theorem add_g : Callable Tryz.prog 41 := ⟨Tryz.f41, body Tryz.f41, by kernel_rfl, by kernel_rfl, by kernel_rfl⟩
theorem add_raw (sp_nodeAt : nodeAt_T) (sp_store : store_T) (sp_word : word_T) (sp_set : set_T) (sp_take : take_T) (sp_none : none_T) (sp_failed : failed_T) (sp_latch : latch_T) (c : Cfg) (got : List Int) (held : List Int) (did : List Acc) : runQ Tryz.f41 [pm] mach [.s (.e (.st .res))] mach machP [(77, nodeAt_C sp_nodeAt), (75, store_C sp_store), (72, word_C sp_word), (76, set_C sp_set), (73, take_C sp_take), (74, none_C sp_none), (51, failed_C sp_failed), (71, latch_C sp_latch)] [] [] ((((), ()), ((c, got, (), held, ()), did, ())) : VhL [pm] × OShL mach) = ((sp_latch (((), [0], ()), (c, got, (), held, ()), did, ())).bind fun val => selim val (fun val => (sp_word (((), 0, ()), (val.2.1.1, val.2.1.2.1, (), val.2.1.2.2.2.1, ()), val.2.2.1, ())).bind fun val => selim val (fun val => bif decide (val.1.1 > val.2.1.1.ids) then (sp_failed ((4, ()), ())).bind fun val_1 => some (Sum.inl ((val_1.1.1, ()), (val.2.1.1, val.2.1.2.1, (), val.2.1.2.2.2.1, ()), val.2.2.1, ())) else (sp_take (((), 1, ()), (val.2.1.1, val.2.1.2.1, (), val.2.1.2.2.2.1, ()), val.2.2.1, ())).bind fun val_1 => selim val_1 (fun val_2 => (sp_none ((((), val_2.1.1.2.1, val_2.1.1.2.2.1, ()), ()), (val_2.2.1.1, val_2.2.1.2.1, (), val_2.2.1.2.2.2.1, ()), val_2.2.2.1, ())).bind fun val_3 => selim val_3 (fun val_4 => bif val_4.1.1 then (sp_failed ((3, ()), ())).bind fun val => some (Sum.inl ((val.1.1, ()), (val_4.2.1.1, val_4.2.1.2.1, (), val_4.2.1.2.2.2.1, ()), val_4.2.2.1, ())) else (sp_store ((((), val_2.1.1.2.1, val_2.1.1.2.2.1, ()), 0, rdE EK.int [val.1.1, 0, 0, 0] 0, ()), (val_4.2.1.1, val_4.2.1.2.1, (), val_4.2.1.2.2.2.1, ()), val_4.2.2.1, ())).bind fun val_5 => selim val_5 (fun val_6 => (sp_store ((((), val_2.1.1.2.1, val_2.1.1.2.2.1, ()), w64 (0 + 1), rdE EK.int [val.1.1, 0, 0, 0] (w64 (0 + 1)), ()), (val_6.2.1.1, val_6.2.1.2.1, (), val_6.2.1.2.2.2.1, ()), val_6.2.2.1, ())).bind fun val_7 => selim val_7 (fun val_8 => (sp_store ((((), val_2.1.1.2.1, val_2.1.1.2.2.1, ()), w64 (w64 (0 + 1) + 1), rdE EK.int [val.1.1, 0, 0, 0] (w64 (w64 (0 + 1) + 1)), ()), (val_8.2.1.1, val_8.2.1.2.1, (), val_8.2.1.2.2.2.1, ()), val_8.2.2.1, ())).bind fun val_9 => selim val_9 (fun val_10 => (sp_store ((((), val_2.1.1.2.1, val_2.1.1.2.2.1, ()), w64 (w64 (w64 (0 + 1) + 1) + 1), rdE EK.int [val.1.1, 0, 0, 0] (w64 (w64 (w64 (0 + 1) + 1) + 1)), ()), (val_10.2.1.1, val_10.2.1.2.1, (), val_10.2.1.2.2.2.1, ()), val_10.2.2.1, ())).bind fun val_11 => selim val_11 (fun val_12 => (sp_set (((), 0, w64 (val.1.1 + 1), ()), (val_12.2.1.1, val_12.2.1.2.1, (), val_12.2.1.2.2.2.1, ()), val_12.2.2.1, ())).bind fun val_13 => selim val_13 (fun val_14 => (sp_nodeAt ((val.1.1, ()), ())).bind fun val_15 => (sp_set (((), val_15.1.1, val_2.1.1.2.2.1, ()), (val_14.2.1.1, val_14.2.1.2.1, (), val_14.2.1.2.2.2.1, ()), val_14.2.2.1, ())).bind fun val_16 => selim val_16 (fun val_17 => some (Sum.inl ((Res.mk 0 val.1.1 [] [] [], ()), (val_17.2.1.1, val_17.2.1.2.1, (), val_17.2.1.2.2.2.1, ()), val_17.2.2.1, ()))) fun val => some (Sum.inr (((), ()), (val.2.1.1, val.2.1.2.1, (), (), ()), val.2.2.1, ()))) fun val => some (Sum.inr (((), ()), (val.2.1.1, val.2.1.2.1, (), (), ()), val.2.2.1, ()))) fun val => some (Sum.inr (((), ()), (val.2.1.1, val.2.1.2.1, (), (), ()), val.2.2.1, ()))) fun val => some (Sum.inr (((), ()), (val.2.1.1, val.2.1.2.1, (), (), ()), val.2.2.1, ()))) fun val => some (Sum.inr (((), ()), (val.2.1.1, val.2.1.2.1, (), (), ()), val.2.2.1, ()))) fun val => some (Sum.inr (((), ()), (val.2.1.1, val.2.1.2.1, (), (), ()), val.2.2.1, ()))) fun val => some (Sum.inr (((), ()), (val.2.1.1, val.2.1.2.1, (), (), ()), val.2.2.1, ()))) fun val => some (Sum.inr (((), ()), (val.2.1.1, val.2.1.2.1, (), (), ()), val.2.2.1, ()))) fun val => some (Sum.inr (((), ()), (val.2.1.1, val.2.1.2.1, (), (), ()), val.2.2.1, ()))) fun val => some (Sum.inr (((), ()), (val.2.1.1, val.2.1.2.1, (), (), ()), val.2.2.1, ()))) := by kernel_rfl
theorem add_ok : Sound Tryz.prog gl 41 (add_C (Ifc.spec addI)) := by
  refine cqk (fn := Tryz.f41) (G := [(77, nodeAt_C (Ifc.spec nodeAtI)), (75, store_C (Ifc.spec storeI)), (72, word_C (Ifc.spec wordI)), (76, set_C (Ifc.spec setI)), (73, take_C (Ifc.spec takeI)), (74, none_C (Ifc.spec noneI)), (51, failed_C (Ifc.spec failedI)), (71, latch_C (Ifc.spec latchI))]) (GOk.cons nodeAt_g nodeAt_ok (GOk.cons store_g store_ok (GOk.cons word_g word_ok (GOk.cons set_g set_ok (GOk.cons take_g take_ok (GOk.cons none_g none_ok (GOk.cons failed_g failed_ok (GOk.cons latch_g latch_ok (GOk.nil))))))))) (by kernel_rfl) (by kernel_rfl) (Lc := []) (nh := []) (lcok (bs := [getL (body Tryz.f41) 0]) (by kernel_rfl) ⟨lnone_ok (by kernel_rfl), trivial⟩) ?_
  rintro ⟨⟨_, _⟩, ⟨⟨c, got, _, held, _⟩, did, _⟩⟩
  refine (add_raw (Ifc.spec nodeAtI) (Ifc.spec storeI) (Ifc.spec wordI) (Ifc.spec setI) (Ifc.spec takeI) (Ifc.spec noneI) (Ifc.spec failedI) (Ifc.spec latchI) c got held did).trans ?_
  show _ = outG (addI.enc (((), ()), ((c, got, (), held, ()), did, ()))) (addI.stop (((), ()), ((c, got, (), held, ()), did, ()))) ((addTr c got held).exec got did)
  unfold addTr
  repeat' (first | refine cond_out (fun _ => ?_) (fun _ => ?_) | (refine (retI (by with_reducible rfl)).trans ?_; try dsimp only [selim, cond_true, cond_false, Bool.not_true, Bool.not_false, one, none1, mI, nodeAtI, storeI, wordI, setI, takeI, noneI, failedI, latchI]) | (refine bindI rfl rfl (fun _ _ => ?_) (fun _ => rfl); try dsimp only [selim, cond_true, cond_false, Bool.not_true, Bool.not_false, one, none1, mI, nodeAtI, storeI, wordI, setI, takeI, noneI, failedI, latchI]) | rfl)
def linkTr (a : Int) (b : Int) (c : Cfg) (got : List Int) (held : List Int) : T (Res × List Int) :=
 (knownTr [a, b] c got held).bind fun x0 =>
 bif !x0 then
 .ret (Res.mk 2 0 [] [] [], held)
 else
 (latchTr [0, a, b] c got held).bind fun x1 =>
 (findTr a c got x1).bind fun x2 =>
 bif x2 == 0 then
 .ret (Res.mk 2 0 [] [] [], x1)
 else
 (findTr b c got x1).bind fun x4 =>
 bif x4 == 0 then
 .ret (Res.mk 2 0 [] [] [], x1)
 else
 (wordTr 1 c got x1).bind fun x6 =>
 bif decide (x6 > c.edgeIds) then
 .ret (Res.mk 4 0 [] [] [], x1)
 else
 (takeTr 2 c got x1).bind fun x7 =>
 bif x7 == 0 then
 .ret (Res.mk 3 0 [] [] [], x1)
 else
 (storeTr 2 x7 0 x6 c got x1).bind fun _ =>
 (storeTr 2 x7 1 a c got x1).bind fun _ =>
 (storeTr 2 x7 2 b c got x1).bind fun _ =>
 (loadTr (rdE EK.int [1, 1] 0) (rdE EK.int [x2, x4] 0) (rdE EK.int [1, 2] 0) c got x1).bind fun x12 =>
 (storeTr 2 x7 (rdE EK.int [3, 4] 0) x12 c got x1).bind fun _ =>
 (loadTr (rdE EK.int [1, 1] (w64 (0 + 1))) (rdE EK.int [x2, x4] (w64 (0 + 1))) (rdE EK.int [1, 2] (w64 (0 + 1))) c got x1).bind fun x14 =>
 (storeTr 2 x7 (rdE EK.int [3, 4] (w64 (0 + 1))) x14 c got x1).bind fun _ =>
 (setTr 1 (w64 (x6 + 1)) c got x1).bind fun _ =>
 (storeTr (rdE EK.int [1, 1] 0) (rdE EK.int [x2, x4] 0) (rdE EK.int [1, 2] 0) x7 c got x1).bind fun _ =>
 (storeTr (rdE EK.int [1, 1] (w64 (0 + 1))) (rdE EK.int [x2, x4] (w64 (0 + 1))) (rdE EK.int [1, 2] (w64 (0 + 1))) x7 c got x1).bind fun _ =>
 (setTr (w64 (w64 (c.ids + 1) + x6)) x7 c got x1).bind fun _ =>
 .ret (Res.mk 0 x6 [] [] [], x1)
@[reducible] def linkI : Ifc (VhL [pm, vi, vi] × OShL mach) ((VhL [.s (.e (.st .res))] × OShL mach) ⊕ (VhL [.agg []] × OShL machP)) where
  α := Res × List Int
  tr x := linkTr x.1.2.1 x.1.2.2.1 x.2.1.1 x.2.1.2.1 x.2.1.2.2.2.1
  got x := x.2.1.2.1
  did x := x.2.2.1
  enc x a d := Sum.inl (((a.1, ()), ((x.2.1.1, x.2.1.2.1, (), a.2, ()), d, ())))
  stop x d := Sum.inr ((((), ()), ((x.2.1.1, x.2.1.2.1, (), (), ()), d, ())))
abbrev link_T : Type := VhL [pm, vi, vi] × OShL mach → Option ((VhL [.s (.e (.st .res))] × OShL mach) ⊕ (VhL [.agg []] × OShL machP))
noncomputable abbrev link_C (sp : link_T) : Con := cq [pm, vi, vi] mach [.s (.e (.st .res))] mach machP sp
theorem link_g : Callable Tryz.prog 42 := ⟨Tryz.f42, body Tryz.f42, by kernel_rfl, by kernel_rfl, by kernel_rfl⟩
theorem link_raw (sp_load : load_T) (sp_store : store_T) (sp_word : word_T) (sp_set : set_T) (sp_take : take_T) (sp_none : none_T) (sp_edgeAt : edgeAt_T) (sp_find : find_T) (sp_failed : failed_T) (sp_known : known_T) (sp_latch : latch_T) (a : Int) (b : Int) (c : Cfg) (got : List Int) (held : List Int) (did : List Acc) : runQ Tryz.f42 [pm, vi, vi] mach [.s (.e (.st .res))] mach machP [(80, load_C sp_load), (75, store_C sp_store), (72, word_C sp_word), (76, set_C sp_set), (73, take_C sp_take), (74, none_C sp_none), (81, edgeAt_C sp_edgeAt), (79, find_C sp_find), (51, failed_C sp_failed), (78, known_C sp_known), (71, latch_C sp_latch)] [] [] ((((), a, b, ()), ((c, got, (), held, ()), did, ())) : VhL [pm, vi, vi] × OShL mach) = ((sp_known (((), [a, b], ()), (c, got, (), held, ()), did, ())).bind fun val => selim val (fun val => bif !val.1.1 then (sp_failed ((2, ()), ())).bind fun val_1 => some (Sum.inl ((val_1.1.1, ()), (val.2.1.1, val.2.1.2.1, (), val.2.1.2.2.2.1, ()), val.2.2.1, ())) else (sp_latch (((), [0, a, b], ()), (val.2.1.1, val.2.1.2.1, (), val.2.1.2.2.2.1, ()), val.2.2.1, ())).bind fun val => selim val (fun val => (sp_find (((), a, ()), (val.2.1.1, val.2.1.2.1, (), val.2.1.2.2.2.1, ()), val.2.2.1, ())).bind fun val => selim val (fun val => (sp_none ((((), val.1.1.2.1, val.1.1.2.2.1, ()), ()), (val.2.1.1, val.2.1.2.1, (), val.2.1.2.2.2.1, ()), val.2.2.1, ())).bind fun val_1 => selim val_1 (fun val_2 => bif val_2.1.1 then (sp_failed ((2, ()), ())).bind fun val => some (Sum.inl ((val.1.1, ()), (val_2.2.1.1, val_2.2.1.2.1, (), val_2.2.1.2.2.2.1, ()), val_2.2.2.1, ())) else (sp_find (((), b, ()), (val_2.2.1.1, val_2.2.1.2.1, (), val_2.2.1.2.2.2.1, ()), val_2.2.2.1, ())).bind fun val_3 => selim val_3 (fun val_4 => (sp_none ((((), val_4.1.1.2.1, val_4.1.1.2.2.1, ()), ()), (val_4.2.1.1, val_4.2.1.2.1, (), val_4.2.1.2.2.2.1, ()), val_4.2.2.1, ())).bind fun val_5 => selim val_5 (fun val_6 => bif val_6.1.1 then (sp_failed ((2, ()), ())).bind fun val => some (Sum.inl ((val.1.1, ()), (val_6.2.1.1, val_6.2.1.2.1, (), val_6.2.1.2.2.2.1, ()), val_6.2.2.1, ())) else (sp_word (((), 1, ()), (val_6.2.1.1, val_6.2.1.2.1, (), val_6.2.1.2.2.2.1, ()), val_6.2.2.1, ())).bind fun val_7 => selim val_7 (fun val_8 => bif decide (val_8.1.1 > val_8.2.1.1.edgeIds) then (sp_failed ((4, ()), ())).bind fun val => some (Sum.inl ((val.1.1, ()), (val_8.2.1.1, val_8.2.1.2.1, (), val_8.2.1.2.2.2.1, ()), val_8.2.2.1, ())) else (sp_take (((), 2, ()), (val_8.2.1.1, val_8.2.1.2.1, (), val_8.2.1.2.2.2.1, ()), val_8.2.2.1, ())).bind fun val_9 => selim val_9 (fun val_10 => (sp_none ((((), val_10.1.1.2.1, val_10.1.1.2.2.1, ()), ()), (val_10.2.1.1, val_10.2.1.2.1, (), val_10.2.1.2.2.2.1, ()), val_10.2.2.1, ())).bind fun val_11 => selim val_11 (fun val_12 => bif val_12.1.1 then (sp_failed ((3, ()), ())).bind fun val => some (Sum.inl ((val.1.1, ()), (val_12.2.1.1, val_12.2.1.2.1, (), val_12.2.1.2.2.2.1, ()), val_12.2.2.1, ())) else (sp_store ((((), val_10.1.1.2.1, val_10.1.1.2.2.1, ()), 0, val_8.1.1, ()), (val_12.2.1.1, val_12.2.1.2.1, (), val_12.2.1.2.2.2.1, ()), val_12.2.2.1, ())).bind fun val_13 => selim val_13 (fun val_14 => (sp_store ((((), val_10.1.1.2.1, val_10.1.1.2.2.1, ()), 1, a, ()), (val_14.2.1.1, val_14.2.1.2.1, (), val_14.2.1.2.2.2.1, ()), val_14.2.2.1, ())).bind fun val_15 => selim val_15 (fun val_16 => (sp_store ((((), val_10.1.1.2.1, val_10.1.1.2.2.1, ()), 2, b, ()), (val_16.2.1.1, val_16.2.1.2.1, (), val_16.2.1.2.2.2.1, ()), val_16.2.2.1, ())).bind fun val_17 => selim val_17 (fun val_18 => (sp_load ((((), rdE EK.int [val.1.1.2.1, val_4.1.1.2.1] 0, rdE EK.int [val.1.1.2.2.1, val_4.1.1.2.2.1] 0, ()), rdE EK.int [1, 2] 0, ()), (val_18.2.1.1, val_18.2.1.2.1, (), val_18.2.1.2.2.2.1, ()), val_18.2.2.1, ())).bind fun val_19 => selim val_19 (fun val_20 => (sp_store ((((), val_10.1.1.2.1, val_10.1.1.2.2.1, ()), rdE EK.int [3, 4] 0, val_20.1.1, ()), (val_20.2.1.1, val_20.2.1.2.1, (), val_20.2.1.2.2.2.1, ()), val_20.2.2.1, ())).bind fun val_21 => selim val_21 (fun val_22 => (sp_load ((((), rdE EK.int [val.1.1.2.1, val_4.1.1.2.1] (w64 (0 + 1)), rdE EK.int [val.1.1.2.2.1, val_4.1.1.2.2.1] (w64 (0 + 1)), ()), rdE EK.int [1, 2] (w64 (0 + 1)), ()), (val_22.2.1.1, val_22.2.1.2.1, (), val_22.2.1.2.2.2.1, ()), val_22.2.2.1, ())).bind fun val_23 => selim val_23 (fun val_24 => (sp_store ((((), val_10.1.1.2.1, val_10.1.1.2.2.1, ()), rdE EK.int [3, 4] (w64 (0 + 1)), val_24.1.1, ()), (val_24.2.1.1, val_24.2.1.2.1, (), val_24.2.1.2.2.2.1, ()), val_24.2.2.1, ())).bind fun val_25 => selim val_25 (fun val_26 => (sp_set (((), 1, w64 (val_8.1.1 + 1), ()), (val_26.2.1.1, val_26.2.1.2.1, (), val_26.2.1.2.2.2.1, ()), val_26.2.2.1, ())).bind fun val_27 => selim val_27 (fun val_28 => (sp_store ((((), rdE EK.int [val.1.1.2.1, val_4.1.1.2.1] 0, rdE EK.int [val.1.1.2.2.1, val_4.1.1.2.2.1] 0, ()), rdE EK.int [1, 2] 0, val_10.1.1.2.2.1, ()), (val_28.2.1.1, val_28.2.1.2.1, (), val_28.2.1.2.2.2.1, ()), val_28.2.2.1, ())).bind fun val_29 => selim val_29 (fun val_30 => (sp_store ((((), rdE EK.int [val.1.1.2.1, val_4.1.1.2.1] (w64 (0 + 1)), rdE EK.int [val.1.1.2.2.1, val_4.1.1.2.2.1] (w64 (0 + 1)), ()), rdE EK.int [1, 2] (w64 (0 + 1)), val_10.1.1.2.2.1, ()), (val_30.2.1.1, val_30.2.1.2.1, (), val_30.2.1.2.2.2.1, ()), val_30.2.2.1, ())).bind fun val => selim val (fun val => (sp_edgeAt (((), val_8.1.1, ()), (val.2.1.1, val.2.1.2.1, (), val.2.1.2.2.2.1, ()), val.2.2.1, ())).bind fun val => selim val (fun val => (sp_set (((), val.1.1, val_10.1.1.2.2.1, ()), (val.2.1.1, val.2.1.2.1, (), val.2.1.2.2.2.1, ()), val.2.2.1, ())).bind fun val => selim val (fun val => some (Sum.inl ((Res.mk 0 val_8.1.1 [] [] [], ()), (val.2.1.1, val.2.1.2.1, (), val.2.1.2.2.2.1, ()), val.2.2.1, ()))) fun val => some (Sum.inr (((), ()), (val.2.1.1, val.2.1.2.1, (), (), ()), val.2.2.1, ()))) fun val => some (Sum.inr (((), ()), (val.2.1.1, val.2.1.2.1, (), (), ()), val.2.2.1, ()))) fun val => some (Sum.inr (((), ()), (val.2.1.1, val.2.1.2.1, (), (), ()), val.2.2.1, ()))) fun val => some (Sum.inr (((), ()), (val.2.1.1, val.2.1.2.1, (), (), ()), val.2.2.1, ()))) fun val => some (Sum.inr (((), ()), (val.2.1.1, val.2.1.2.1, (), (), ()), val.2.2.1, ()))) fun val => some (Sum.inr (((), ()), (val.2.1.1, val.2.1.2.1, (), (), ()), val.2.2.1, ()))) fun val => some (Sum.inr (((), ()), (val.2.1.1, val.2.1.2.1, (), (), ()), val.2.2.1, ()))) fun val => some (Sum.inr (((), ()), (val.2.1.1, val.2.1.2.1, (), (), ()), val.2.2.1, ()))) fun val => some (Sum.inr (((), ()), (val.2.1.1, val.2.1.2.1, (), (), ()), val.2.2.1, ()))) fun val => some (Sum.inr (((), ()), (val.2.1.1, val.2.1.2.1, (), (), ()), val.2.2.1, ()))) fun val => some (Sum.inr (((), ()), (val.2.1.1, val.2.1.2.1, (), (), ()), val.2.2.1, ()))) fun val => some (Sum.inr (((), ()), (val.2.1.1, val.2.1.2.1, (), (), ()), val.2.2.1, ()))) fun val => some (Sum.inr (((), ()), (val.2.1.1, val.2.1.2.1, (), (), ()), val.2.2.1, ()))) fun val => some (Sum.inr (((), ()), (val.2.1.1, val.2.1.2.1, (), (), ()), val.2.2.1, ()))) fun val => some (Sum.inr (((), ()), (val.2.1.1, val.2.1.2.1, (), (), ()), val.2.2.1, ()))) fun val => some (Sum.inr (((), ()), (val.2.1.1, val.2.1.2.1, (), (), ()), val.2.2.1, ()))) fun val => some (Sum.inr (((), ()), (val.2.1.1, val.2.1.2.1, (), (), ()), val.2.2.1, ()))) fun val => some (Sum.inr (((), ()), (val.2.1.1, val.2.1.2.1, (), (), ()), val.2.2.1, ()))) fun val => some (Sum.inr (((), ()), (val.2.1.1, val.2.1.2.1, (), (), ()), val.2.2.1, ()))) fun val => some (Sum.inr (((), ()), (val.2.1.1, val.2.1.2.1, (), (), ()), val.2.2.1, ()))) fun val => some (Sum.inr (((), ()), (val.2.1.1, val.2.1.2.1, (), (), ()), val.2.2.1, ()))) := by kernel_rfl
theorem link_ok : Sound Tryz.prog gl 42 (link_C (Ifc.spec linkI)) := by
  refine cqk (fn := Tryz.f42) (G := [(80, load_C (Ifc.spec loadI)), (75, store_C (Ifc.spec storeI)), (72, word_C (Ifc.spec wordI)), (76, set_C (Ifc.spec setI)), (73, take_C (Ifc.spec takeI)), (74, none_C (Ifc.spec noneI)), (81, edgeAt_C (Ifc.spec edgeAtI)), (79, find_C (Ifc.spec findI)), (51, failed_C (Ifc.spec failedI)), (78, known_C (Ifc.spec knownI)), (71, latch_C (Ifc.spec latchI))]) (GOk.cons load_g load_ok (GOk.cons store_g store_ok (GOk.cons word_g word_ok (GOk.cons set_g set_ok (GOk.cons take_g take_ok (GOk.cons none_g none_ok (GOk.cons edgeAt_g edgeAt_ok (GOk.cons find_g find_ok (GOk.cons failed_g failed_ok (GOk.cons known_g known_ok (GOk.cons latch_g latch_ok (GOk.nil)))))))))))) (by kernel_rfl) (by kernel_rfl) (Lc := []) (nh := []) (lcok (bs := [getL (body Tryz.f42) 0, getL (body Tryz.f42) 1]) (by kernel_rfl) ⟨lnone_ok (by kernel_rfl), lnone_ok (by kernel_rfl), trivial⟩) ?_
  rintro ⟨⟨_, a, b, _⟩, ⟨⟨c, got, _, held, _⟩, did, _⟩⟩
  refine (link_raw (Ifc.spec loadI) (Ifc.spec storeI) (Ifc.spec wordI) (Ifc.spec setI) (Ifc.spec takeI) (Ifc.spec noneI) (Ifc.spec edgeAtI) (Ifc.spec findI) (Ifc.spec failedI) (Ifc.spec knownI) (Ifc.spec latchI) a b c got held did).trans ?_
  show _ = outG (linkI.enc (((), a, b, ()), ((c, got, (), held, ()), did, ()))) (linkI.stop (((), a, b, ()), ((c, got, (), held, ()), did, ()))) ((linkTr a b c got held).exec got did)
  unfold linkTr
  repeat' (first | refine cond_out (fun _ => ?_) (fun _ => ?_) | (refine (retI (by with_reducible rfl)).trans ?_; try dsimp only [selim, cond_true, cond_false, Bool.not_true, Bool.not_false, one, none1, mI, loadI, storeI, wordI, setI, takeI, noneI, edgeAtI, findI, failedI, knownI, latchI]) | (refine bindI rfl rfl (fun _ _ => ?_) (fun _ => rfl); try dsimp only [selim, cond_true, cond_false, Bool.not_true, Bool.not_false, one, none1, mI, loadI, storeI, wordI, setI, takeI, noneI, edgeAtI, findI, failedI, knownI, latchI]) | rfl)
abbrev cutL0vs : List Vh := [pm, vi, .s (.ptr 2 0), .s (.ptr 3 0)]
abbrev cutL0os : List OSh := [.box [.e (.st .cfg), .e (.sl .int), .own 1, .sln .int], .arr (.st .acc), .box [.e (.st .res)], .box [.e .int, .e .int]]
noncomputable abbrev cutL0fin : Fin := ((Fin.one 2 Tryz.f43.ntmps .ret [4] [.s (.ptr 2 0)] [.box [.e (.st .cfg), .e (.sl .int), .own 1, .sln .int], .arr (.st .acc), .box [.e .int, .e .int, .e (.sl (.st .pr)), .e (.sl (.st .en)), .e (.sl (.st .en))]]).or (Fin.pan 2 59 (.agg []) machP))
def cutL0Step (v1 : Int) (c : Cfg) (got : List Int) (v9 : Res) (st : List Int × Int × Int) : T ((List Int × Int × Int) ⊕ (List Int × Int)) :=
 let held := st.1
 let v10 := st.2.1
 let v11 := st.2.2
 (wordTr (w64 (w64 (c.ids + 1) + v1)) c got held).bind fun x1 =>
 bif x1 == 0 then
 .ret (Sum.inr (held, 2))
 else
 (loadTr 2 x1 1 c got held).bind fun x4 =>
 (loadTr 2 x1 2 c got held).bind fun x5 =>
 bif !held.isEmpty then
 (T.gret (ordG [x4, x5] && ordG held) ()).bind fun _ =>
 bif ordIn [x4, x5] held then
 (unlinkTr (Sid.mk (rdE EK.int [1, 2] 0) (rdE EK.int [3, 4] 0) (rdE EK.int [1, 2] 0) (rdE EK.int [2, 1] 0)) (rdE EK.int [x4, x5] 0) 2 x1 c got held).bind fun _ =>
 (unlinkTr (Sid.mk (rdE EK.int [1, 2] (w64 (0 + 1))) (rdE EK.int [3, 4] (w64 (0 + 1))) (rdE EK.int [1, 2] (w64 (0 + 1))) (rdE EK.int [2, 1] (w64 (0 + 1)))) (rdE EK.int [x4, x5] (w64 (0 + 1))) 2 x1 c got held).bind fun _ =>
 (setTr (w64 (w64 (c.ids + 1) + v1)) 0 c got held).bind fun _ =>
 (retireTr 2 x1 c got held).bind fun _ =>
 .ret (Sum.inr (held, 0))
 else
 (freeTr held).bind fun _ =>
 (latchTr [x4, x5] c got []).bind fun x8 =>
 .ret (Sum.inl (x8, x4, x5))
 else
 (freeTr held).bind fun _ =>
 (latchTr [x4, x5] c got []).bind fun x7 =>
 .ret (Sum.inl (x7, x4, x5))
@[reducible] def cutL0I : Ifc (VhL cutL0vs × OShL cutL0os) cutL0fin.Y where
  α := List Int × Int
  tr x := T.loop (cutL0Step x.1.2.1 x.2.1.1 x.2.1.2.1 x.2.2.2.1.1) (x.2.1.2.1.length + 10) (x.2.1.2.2.2.1, x.2.2.2.2.1.1, x.2.2.2.2.1.2.1)
  got x := x.2.1.2.1
  did x := x.2.2.1
  enc x a d := Sum.inl ((((), ()), ((x.2.1.1, x.2.1.2.1, (), a.1, ()), d, (a.2, 0, [], [], [], ()), ())))
  stop x d := Sum.inr ((((), ()), ((x.2.1.1, x.2.1.2.1, (), (), ()), d, ())))
theorem cutL0_raw (sp_load : load_T) (sp_retire : retire_T) (sp_word : word_T) (sp_set : set_T) (sp_edge : edge_T) (sp_none : none_T) (sp_edgeAt : edgeAt_T) (sp_failed : failed_T) (sp_unlink : unlink_T) (sp_ordWithin : ordWithin_T) (sp_free : free_T) (sp_latch : latch_T) (v1 : Int) (c : Cfg) (got : List Int) (held : List Int) (did : List Acc) (v9 : Res) (v10 : Int) (v11 : Int) : runW 2 Tryz.f43 0 [0, 1, 4, 5] cutL0vs cutL0os cutL0fin [(80, load_C sp_load), (85, retire_C sp_retire), (72, word_C sp_word), (76, set_C sp_set), (82, edge_C sp_edge), (74, none_C sp_none), (81, edgeAt_C sp_edgeAt), (51, failed_C sp_failed), (84, unlink_C sp_unlink), (83, ordWithin_C sp_ordWithin), (28, free_C sp_free), (71, latch_C sp_latch)] [] [] ((((), v1, (), (), ()), ((c, got, (), held, ()), did, (v9, ()), (v10, v11, ()), ())) : VhL cutL0vs × OShL cutL0os) = ((sp_edgeAt (((), v1, ()), (c, got, (), held, ()), did, ())).bind fun val => selim val (fun val => (sp_word (((), val.1.1, ()), (val.2.1.1, val.2.1.2.1, (), val.2.1.2.2.2.1, ()), val.2.2.1, ())).bind fun val => selim val (fun val => (sp_edge (((), val.1.1, ()), (val.2.1.1, val.2.1.2.1, (), val.2.1.2.2.2.1, ()), val.2.2.1, ())).bind fun val => selim val (fun val => (sp_none ((((), val.1.1.2.1, val.1.1.2.2.1, ()), ()), (val.2.1.1, val.2.1.2.1, (), val.2.1.2.2.2.1, ()), val.2.2.1, ())).bind fun val_1 => selim val_1 (fun val_2 => bif val_2.1.1 then (sp_failed ((2, ()), ())).bind fun val => some (Sum.inr (Sum.inl (((), ()), (val_2.2.1.1, val_2.2.1.2.1, (), val_2.2.1.2.2.2.1, ()), val_2.2.2.1, (val.1.1.err, val.1.1.id, val.1.1.pairs, val.1.1.out, val.1.1.inn, ()), ()))) else (sp_load ((((), val.1.1.2.1, val.1.1.2.2.1, ()), 1, ()), (val_2.2.1.1, val_2.2.1.2.1, (), val_2.2.1.2.2.2.1, ()), val_2.2.2.1, ())).bind fun val_3 => selim val_3 (fun val_4 => (sp_load ((((), val.1.1.2.1, val.1.1.2.2.1, ()), 2, ()), (val_4.2.1.1, val_4.2.1.2.1, (), val_4.2.1.2.2.2.1, ()), val_4.2.2.1, ())).bind fun val_5 => selim val_5 (fun val_6 => bif !List.isEmpty val_6.2.1.2.2.2.1 then (sp_ordWithin (([val_4.1.1, val_6.1.1], val_6.2.1.2.2.2.1, ()), ())).bind fun val_7 => bif val_7.1.1 then (sp_unlink (((), Sid.mk (rdE EK.int [1, 2] 0) (rdE EK.int [3, 4] 0) (rdE EK.int [1, 2] 0) (rdE EK.int [2, 1] 0), rdE EK.int [val_4.1.1, val_6.1.1] 0, ((), val.1.1.2.1, val.1.1.2.2.1, ()), ()), (val_6.2.1.1, val_6.2.1.2.1, (), val_6.2.1.2.2.2.1, ()), val_6.2.2.1, ())).bind fun val_8 => selim val_8 (fun val_9 => (sp_unlink (((), Sid.mk (rdE EK.int [1, 2] (w64 (0 + 1))) (rdE EK.int [3, 4] (w64 (0 + 1))) (rdE EK.int [1, 2] (w64 (0 + 1))) (rdE EK.int [2, 1] (w64 (0 + 1))), rdE EK.int [val_4.1.1, val_6.1.1] (w64 (0 + 1)), ((), val.1.1.2.1, val.1.1.2.2.1, ()), ()), (val_9.2.1.1, val_9.2.1.2.1, (), val_9.2.1.2.2.2.1, ()), val_9.2.2.1, ())).bind fun val_10 => selim val_10 (fun val_11 => (sp_edgeAt (((), v1, ()), (val_11.2.1.1, val_11.2.1.2.1, (), val_11.2.1.2.2.2.1, ()), val_11.2.2.1, ())).bind fun val_12 => selim val_12 (fun val_13 => (sp_set (((), val_13.1.1, 0, ()), (val_13.2.1.1, val_13.2.1.2.1, (), val_13.2.1.2.2.2.1, ()), val_13.2.2.1, ())).bind fun val_14 => selim val_14 (fun val_15 => (sp_retire ((((), val.1.1.2.1, val.1.1.2.2.1, ()), ()), (val_15.2.1.1, val_15.2.1.2.1, (), val_15.2.1.2.2.2.1, ()), val_15.2.2.1, ())).bind fun val => selim val (fun val => some (Sum.inr (Sum.inl (((), ()), (val.2.1.1, val.2.1.2.1, (), val.2.1.2.2.2.1, ()), val.2.2.1, (0, 0, [], [], [], ()), ())))) fun val => some (Sum.inr (Sum.inr (((), ()), (val.2.1.1, val.2.1.2.1, (), (), ()), val.2.2.1, ())))) fun val => some (Sum.inr (Sum.inr (((), ()), (val.2.1.1, val.2.1.2.1, (), (), ()), val.2.2.1, ())))) fun val => some (Sum.inr (Sum.inr (((), ()), (val.2.1.1, val.2.1.2.1, (), (), ()), val.2.2.1, ())))) fun val => some (Sum.inr (Sum.inr (((), ()), (val.2.1.1, val.2.1.2.1, (), (), ()), val.2.2.1, ())))) fun val => some (Sum.inr (Sum.inr (((), ()), (val.2.1.1, val.2.1.2.1, (), (), ()), val.2.2.1, ()))) else (sp_free (((), ()), (val_6.2.1.1, val_6.2.1.2.1, (), val_6.2.1.2.2.2.1, ()), val_6.2.2.1, ())).bind fun val => selim val (fun val => (sp_latch (((), [val_4.1.1, val_6.1.1], ()), (val.2.1.1, val.2.1.2.1, (), val.2.1.2.2.2.1, ()), val.2.2.1, ())).bind fun val => selim val (fun val => some (Sum.inl (((), v1, (), (), ()), (val.2.1.1, val.2.1.2.1, (), val.2.1.2.2.2.1, ()), val.2.2.1, (v9, ()), (val_4.1.1, val_6.1.1, ()), ()))) fun val => some (Sum.inr (Sum.inr (((), ()), (val.2.1.1, val.2.1.2.1, (), (), ()), val.2.2.1, ())))) fun val => some (Sum.inr (Sum.inr (((), ()), (val.2.1.1, val.2.1.2.1, (), (), ()), val.2.2.1, ()))) else (sp_free (((), ()), (val_6.2.1.1, val_6.2.1.2.1, (), val_6.2.1.2.2.2.1, ()), val_6.2.2.1, ())).bind fun val => selim val (fun val => (sp_latch (((), [val_4.1.1, val_6.1.1], ()), (val.2.1.1, val.2.1.2.1, (), val.2.1.2.2.2.1, ()), val.2.2.1, ())).bind fun val => selim val (fun val => some (Sum.inl (((), v1, (), (), ()), (val.2.1.1, val.2.1.2.1, (), val.2.1.2.2.2.1, ()), val.2.2.1, (v9, ()), (val_4.1.1, val_6.1.1, ()), ()))) fun val => some (Sum.inr (Sum.inr (((), ()), (val.2.1.1, val.2.1.2.1, (), (), ()), val.2.2.1, ())))) fun val => some (Sum.inr (Sum.inr (((), ()), (val.2.1.1, val.2.1.2.1, (), (), ()), val.2.2.1, ())))) fun val => some (Sum.inr (Sum.inr (((), ()), (val.2.1.1, val.2.1.2.1, (), (), ()), val.2.2.1, ())))) fun val => some (Sum.inr (Sum.inr (((), ()), (val.2.1.1, val.2.1.2.1, (), (), ()), val.2.2.1, ())))) fun val => some (Sum.inr (Sum.inr (((), ()), (val.2.1.1, val.2.1.2.1, (), (), ()), val.2.2.1, ())))) fun val => some (Sum.inr (Sum.inr (((), ()), (val.2.1.1, val.2.1.2.1, (), (), ()), val.2.2.1, ())))) fun val => some (Sum.inr (Sum.inr (((), ()), (val.2.1.1, val.2.1.2.1, (), (), ()), val.2.2.1, ())))) fun val => some (Sum.inr (Sum.inr (((), ()), (val.2.1.1, val.2.1.2.1, (), (), ()), val.2.2.1, ())))) := by kernel_rfl
theorem cutL0_ok : LOk Tryz.prog gl 2 (LCon.of Tryz.f43.ntmps [0, 1, 4, 5] cutL0vs cutL0os cutL0fin (Ifc.spec cutL0I)) (getL (body Tryz.f43) 0) := by
  refine lwk (Lc := []) (nh := []) (G := [(80, load_C (Ifc.spec loadI)), (85, retire_C (Ifc.spec retireI)), (72, word_C (Ifc.spec wordI)), (76, set_C (Ifc.spec setI)), (82, edge_C (Ifc.spec edgeI)), (74, none_C (Ifc.spec noneI)), (81, edgeAt_C (Ifc.spec edgeAtI)), (51, failed_C (Ifc.spec failedI)), (84, unlink_C (Ifc.spec unlinkI)), (83, ordWithin_C (Ifc.spec ordWithinI)), (28, free_C (Ifc.spec freeI)), (71, latch_C (Ifc.spec latchI))]) (GOk.cons load_g load_ok (GOk.cons retire_g retire_ok (GOk.cons word_g word_ok (GOk.cons set_g set_ok (GOk.cons edge_g edge_ok (GOk.cons none_g none_ok (GOk.cons edgeAt_g edgeAt_ok (GOk.cons failed_g failed_ok (GOk.cons unlink_g unlink_ok (GOk.cons ordWithin_g ordWithin_ok (GOk.cons free_g free_ok (GOk.cons latch_g latch_ok (GOk.nil))))))))))))) (lcok (bs := [getL (body Tryz.f43) 1]) (by kernel_rfl) ⟨lnone_ok (by kernel_rfl), trivial⟩) (Fin.or_ok (Fin.one_ok _ _ _ _) (Fin.pan_ok _ _ _)) ?_
  rintro ⟨⟨_, v1, _, _, _⟩, ⟨⟨c, got, _, held, _⟩, did, ⟨v9, _⟩, ⟨v10, v11, _⟩, _⟩⟩ y hy
  refine ⟨_, loopT_ok (eX := fun (st : List Int × Int × Int) (d : List Acc) => (let held := st.1; let v10 := st.2.1; let v11 := st.2.2; (((), v1, (), (), ()), ((c, got, (), held, ()), d, (v9, ()), (v10, v11, ()), ())) : VhL cutL0vs × OShL cutL0os)) (body := cutL0Step v1 c got v9) (fun st d => ?_) _ (held, v10, v11) did y hy⟩
  obtain ⟨held, v10, v11⟩ := st
  refine (cutL0_raw (Ifc.spec loadI) (Ifc.spec retireI) (Ifc.spec wordI) (Ifc.spec setI) (Ifc.spec edgeI) (Ifc.spec noneI) (Ifc.spec edgeAtI) (Ifc.spec failedI) (Ifc.spec unlinkI) (Ifc.spec ordWithinI) (Ifc.spec freeI) (Ifc.spec latchI) v1 c got held d v9 v10 v11).trans ?_
  unfold cutL0Step
  repeat' (first | refine cond_out (fun _ => ?_) (fun _ => ?_) | (refine (retI (by with_reducible rfl)).trans ?_; try dsimp only [selim, cond_true, cond_false, Bool.not_true, Bool.not_false, one, none1, mI, loadI, retireI, wordI, setI, edgeI, noneI, edgeAtI, failedI, unlinkI, ordWithinI, freeI, latchI]) | (refine bindG (by with_reducible rfl) ?_; try dsimp only [selim, cond_true, cond_false, Bool.not_true, Bool.not_false, one, none1, mI, loadI, retireI, wordI, setI, edgeI, noneI, edgeAtI, failedI, unlinkI, ordWithinI, freeI, latchI]) | (refine bindI rfl rfl (fun _ _ => ?_) (fun _ => rfl); try dsimp only [selim, cond_true, cond_false, Bool.not_true, Bool.not_false, one, none1, mI, loadI, retireI, wordI, setI, edgeI, noneI, edgeAtI, failedI, unlinkI, ordWithinI, freeI, latchI]) | rfl)
def cutTr (i : Int) (c : Cfg) (got : List Int) (held : List Int) : T (Res × List Int) :=
 bif decide (i < 1) then
 .ret (Res.mk 2 0 [] [] [], held)
 else
 bif decide (i > c.edgeIds) then
 .ret (Res.mk 2 0 [] [] [], held)
 else
 (T.loop (cutL0Step i c got (Res.mk 0 0 [] [] [])) (got.length + 10) (held, 0, 0)).bind fun x0 =>
 .ret (Res.mk x0.2 0 [] [] [], x0.1)
@[reducible] def cutI : Ifc (VhL [pm, vi] × OShL mach) ((VhL [.s (.e (.st .res))] × OShL mach) ⊕ (VhL [.agg []] × OShL machP)) where
  α := Res × List Int
  tr x := cutTr x.1.2.1 x.2.1.1 x.2.1.2.1 x.2.1.2.2.2.1
  got x := x.2.1.2.1
  did x := x.2.2.1
  enc x a d := Sum.inl (((a.1, ()), ((x.2.1.1, x.2.1.2.1, (), a.2, ()), d, ())))
  stop x d := Sum.inr ((((), ()), ((x.2.1.1, x.2.1.2.1, (), (), ()), d, ())))
abbrev cut_T : Type := VhL [pm, vi] × OShL mach → Option ((VhL [.s (.e (.st .res))] × OShL mach) ⊕ (VhL [.agg []] × OShL machP))
noncomputable abbrev cut_C (sp : cut_T) : Con := cq [pm, vi] mach [.s (.e (.st .res))] mach machP sp
theorem cut_g : Callable Tryz.prog 43 := ⟨Tryz.f43, body Tryz.f43, by kernel_rfl, by kernel_rfl, by kernel_rfl⟩
theorem cut_raw (sp_load : load_T) (sp_retire : retire_T) (sp_word : word_T) (sp_set : set_T) (sp_edge : edge_T) (sp_none : none_T) (sp_edgeAt : edgeAt_T) (sp_failed : failed_T) (sp_unlink : unlink_T) (sp_ordWithin : ordWithin_T) (sp_free : free_T) (sp_latch : latch_T) (sp_cutL0 : VhL cutL0vs × OShL cutL0os → Option cutL0fin.Y) (i : Int) (c : Cfg) (got : List Int) (held : List Int) (did : List Acc) : runQ Tryz.f43 [pm, vi] mach [.s (.e (.st .res))] mach machP [(80, load_C sp_load), (85, retire_C sp_retire), (72, word_C sp_word), (76, set_C sp_set), (82, edge_C sp_edge), (74, none_C sp_none), (81, edgeAt_C sp_edgeAt), (51, failed_C sp_failed), (84, unlink_C sp_unlink), (83, ordWithin_C sp_ordWithin), (28, free_C sp_free), (71, latch_C sp_latch)] [(4, LCon.of Tryz.f43.ntmps [0, 1, 4, 5] cutL0vs cutL0os cutL0fin sp_cutL0)] [] ((((), i, ()), ((c, got, (), held, ()), did, ())) : VhL [pm, vi] × OShL mach) = (bif decide (i < 1) then (sp_failed ((2, ()), ())).bind fun val => some (Sum.inl ((val.1.1, ()), (c, got, (), held, ()), did, ()))
else
  bif decide (i > c.edgeIds) then (sp_failed ((2, ()), ())).bind fun val => some (Sum.inl ((val.1.1, ()), (c, got, (), held, ()), did, ()))
  else
    (sp_cutL0 (((), i, (), (), ()), (c, got, (), held, ()), did, (Res.mk 0 0 [] [] [], ()), (0, 0, ()), ())).bind fun val =>
      selim val
        (fun val =>
          some
            (Sum.inl
              ((Res.mk val.2.2.2.1.1 val.2.2.2.1.2.1 val.2.2.2.1.2.2.1 val.2.2.2.1.2.2.2.1 val.2.2.2.1.2.2.2.2.1, ()),
                (val.2.1.1, val.2.1.2.1, (), val.2.1.2.2.2.1, ()), val.2.2.1, ())))
        fun val => some (Sum.inr (((), ()), (val.2.1.1, val.2.1.2.1, (), (), ()), val.2.2.1, ()))) := by kernel_rfl
theorem cut_ok : Sound Tryz.prog gl 43 (cut_C (Ifc.spec cutI)) := by
  refine cqk (fn := Tryz.f43) (G := [(80, load_C (Ifc.spec loadI)), (85, retire_C (Ifc.spec retireI)), (72, word_C (Ifc.spec wordI)), (76, set_C (Ifc.spec setI)), (82, edge_C (Ifc.spec edgeI)), (74, none_C (Ifc.spec noneI)), (81, edgeAt_C (Ifc.spec edgeAtI)), (51, failed_C (Ifc.spec failedI)), (84, unlink_C (Ifc.spec unlinkI)), (83, ordWithin_C (Ifc.spec ordWithinI)), (28, free_C (Ifc.spec freeI)), (71, latch_C (Ifc.spec latchI))]) (GOk.cons load_g load_ok (GOk.cons retire_g retire_ok (GOk.cons word_g word_ok (GOk.cons set_g set_ok (GOk.cons edge_g edge_ok (GOk.cons none_g none_ok (GOk.cons edgeAt_g edgeAt_ok (GOk.cons failed_g failed_ok (GOk.cons unlink_g unlink_ok (GOk.cons ordWithin_g ordWithin_ok (GOk.cons free_g free_ok (GOk.cons latch_g latch_ok (GOk.nil))))))))))))) (by kernel_rfl) (by kernel_rfl) (Lc := [(4, LCon.of Tryz.f43.ntmps [0, 1, 4, 5] cutL0vs cutL0os cutL0fin (Ifc.spec cutL0I))]) (nh := []) (lcok (bs := [getL (body Tryz.f43) 0, getL (body Tryz.f43) 1]) (by kernel_rfl) ⟨lone_ok (q := (4, LCon.of Tryz.f43.ntmps [0, 1, 4, 5] cutL0vs cutL0os cutL0fin (Ifc.spec cutL0I))) (by kernel_rfl) cutL0_ok, lnone_ok (by kernel_rfl), trivial⟩) ?_
  rintro ⟨⟨_, i, _⟩, ⟨⟨c, got, _, held, _⟩, did, _⟩⟩
  refine (cut_raw (Ifc.spec loadI) (Ifc.spec retireI) (Ifc.spec wordI) (Ifc.spec setI) (Ifc.spec edgeI) (Ifc.spec noneI) (Ifc.spec edgeAtI) (Ifc.spec failedI) (Ifc.spec unlinkI) (Ifc.spec ordWithinI) (Ifc.spec freeI) (Ifc.spec latchI) (Ifc.spec cutL0I) i c got held did).trans ?_
  show _ = outG (cutI.enc (((), i, ()), ((c, got, (), held, ()), did, ()))) (cutI.stop (((), i, ()), ((c, got, (), held, ()), did, ()))) ((cutTr i c got held).exec got did)
  unfold cutTr
  repeat' (first | refine cond_out (fun _ => ?_) (fun _ => ?_) | (refine (retI (by with_reducible rfl)).trans ?_; try dsimp only [selim, cond_true, cond_false, Bool.not_true, Bool.not_false, one, none1, mI, loadI, retireI, wordI, setI, edgeI, noneI, edgeAtI, failedI, unlinkI, ordWithinI, freeI, latchI, cutL0I]) | (refine bindI rfl rfl (fun _ _ => ?_) (fun _ => rfl); try dsimp only [selim, cond_true, cond_false, Bool.not_true, Bool.not_false, one, none1, mI, loadI, retireI, wordI, setI, edgeI, noneI, edgeAtI, failedI, unlinkI, ordWithinI, freeI, latchI, cutL0I]) | rfl)
end Go.Ax.Cd
/- The package code by contracts (printed by wip/tools/con3.py). -/
namespace Go.Ax.Cd
open Go.Proofs
set_option linter.unusedVariables false
set_option maxRecDepth 100000
abbrev cdfq2 : List OSh := [.box [.e (.st .cfg), .e (.sl .int), .own 1, .sln .int], .arr (.st .acc), .arr .int]
abbrev cdfq1 : List OSh := [.box [.e (.st .cfg), .e (.sl .int), .own 3, .any], .any, .any, .arr (.st .acc), .any]
abbrev cdfq0 : List OSh := [.box [.e (.st .cfg), .e (.sl .int), .own 3, .sln .int], .box [.own 4], .box [.e (.st .sid)], .arr (.st .acc), .arr .int]
def aroundCTr (w : Int) (r : Int) (c : Cfg) (got : List Int) (held : List Int) (sd : Sid) (us : List Int) : T (List Int) :=
 (loadTr w r sd.other c got held).bind fun x0 =>
 bif decide (us.length + [x0].length ≤ 1000000000) then
 .ret (us ++ [x0])
 else
 .bot
@[reducible] def aroundCI : Ifc (VhL [rc, .s (.ptr 1 0), .s (.ptr 2 0)] × OShL cdfq0) ((VhL [] × OShL cdfq0) ⊕ (VhL [.agg []] × OShL cdfq1)) where
  α := List Int
  tr x := aroundCTr x.1.1.2.1 x.1.1.2.2.1 x.2.1.1 x.2.1.2.1 x.2.1.2.2.2.1 x.2.2.2.1.1 x.2.2.2.2.2.1
  got x := x.2.1.2.1
  did x := x.2.2.2.2.1
  enc x a d := Sum.inl (((), ((x.2.1.1, x.2.1.2.1, (), x.2.1.2.2.2.1, ()), ((), ()), (x.2.2.2.1.1, ()), d, a, ())))
  stop x d := Sum.inr ((((), ()), ((x.2.1.1, x.2.1.2.1, (), (), ()), (), (), d, (), ())))
abbrev aroundC_T : Type := VhL [rc, .s (.ptr 1 0), .s (.ptr 2 0)] × OShL cdfq0 → Option ((VhL [] × OShL cdfq0) ⊕ (VhL [.agg []] × OShL cdfq1))
noncomputable abbrev aroundC_C (sp : aroundC_T) : Con := cq [rc, .s (.ptr 1 0), .s (.ptr 2 0)] cdfq0 [] cdfq0 cdfq1 sp
theorem aroundC_g : Callable Tryz.prog 125 := ⟨Tryz.f125, body Tryz.f125, by kernel_rfl, by kernel_rfl, by kernel_rfl⟩
theorem aroundC_raw (sp_load : load_T) (w : Int) (r : Int) (c : Cfg) (got : List Int) (held : List Int) (sd : Sid) (did : List Acc) (us : List Int) : runQ Tryz.f125 [rc, .s (.ptr 1 0), .s (.ptr 2 0)] cdfq0 [] cdfq0 cdfq1 [(80, load_C sp_load)] [] [] (((((), w, r, ()), (), (), ()), ((c, got, (), held, ()), ((), ()), (sd, ()), did, us, ())) : VhL [rc, .s (.ptr 1 0), .s (.ptr 2 0)] × OShL cdfq0) = ((sp_load ((((), w, r, ()), sd.other, ()), (c, got, (), held, ()), did, ())).bind fun val => selim val (fun val => bif decide (us.length + [val.1.1].length ≤ 1000000000) then some (Sum.inl ((), (val.2.1.1, val.2.1.2.1, (), val.2.1.2.2.2.1, ()), ((), ()), (sd, ()), val.2.2.1, us ++ [val.1.1], ())) else none) fun val => some (Sum.inr (((), ()), (val.2.1.1, val.2.1.2.1, (), (), ()), (), (), val.2.2.1, (), ()))) := by kernel_rfl
theorem aroundC_ok : Sound Tryz.prog gl 125 (aroundC_C (Ifc.spec aroundCI)) := by
  refine cqk (fn := Tryz.f125) (G := [(80, load_C (Ifc.spec loadI))]) (GOk.cons load_g load_ok (GOk.nil)) (by kernel_rfl) (by kernel_rfl) (Lc := []) (nh := []) (noloopN (by kernel_rfl)) ?_
  rintro ⟨⟨⟨_, w, r, _⟩, _, _, _⟩, ⟨⟨c, got, _, held, _⟩, ⟨_, _⟩, ⟨sd, _⟩, did, us, _⟩⟩
  refine (aroundC_raw (Ifc.spec loadI) w r c got held sd did us).trans ?_
  show _ = outG (aroundCI.enc ((((), w, r, ()), (), (), ()), ((c, got, (), held, ()), ((), ()), (sd, ()), did, us, ()))) (aroundCI.stop ((((), w, r, ()), (), (), ()), ((c, got, (), held, ()), ((), ()), (sd, ()), did, us, ()))) ((aroundCTr w r c got held sd us).exec got did)
  unfold aroundCTr
  repeat' (first | refine cond_out (fun _ => ?_) (fun _ => ?_) | (refine bindI rfl rfl (fun _ _ => ?_) (fun _ => rfl); try dsimp only [selim, cond_true, cond_false, Bool.not_true, Bool.not_false, one, none1, mI, loadI]) | rfl)
abbrev eachAL0vs : List Vh := [.clo 125 [.ptr 1 0, .ptr 2 0], .s (.ptr 5 0), .s (.ptr 6 0)]
abbrev eachAL0os : List OSh := [.box [.e (.st .cfg), .e (.sl .int), .own 3, .sln .int], .box [.own 4], .box [.e (.st .sid)], .arr (.st .acc), .arr .int, .box [.e (.st .sid)], .box [.ptr 0 0, .e .int, .e .int]]
noncomputable abbrev eachAL0fin : Fin := ((Fin.one 5 Tryz.f95.ntmps (.exit 0) [] [] cdfq0).or (Fin.pan 5 59 (.agg []) cdfq1))
def eachAL0Step (c : Cfg) (got : List Int) (held : List Int) (sd : Sid) (v12 : Sid) (v14 : Int) (st : List Int × Int) : T ((List Int × Int) ⊕ (List Int)) :=
 let us := st.1
 let v15 := st.2
 bif !v15 == 0 then
 (aroundCTr v14 v15 c got held sd us).bind fun x1 =>
 (nextTr v14 v15 v12.link c got held).bind fun x2 =>
 .ret (Sum.inl (x1, x2))
 else
 .ret (Sum.inr us)
@[reducible] def eachAL0I : Ifc (VhL eachAL0vs × OShL eachAL0os) eachAL0fin.Y where
  α := List Int
  tr x := T.loop (eachAL0Step x.2.1.1 x.2.1.2.1 x.2.1.2.2.2.1 x.2.2.2.1.1 x.2.2.2.2.2.2.1.1 x.2.2.2.2.2.2.2.1.2.1) (x.2.1.2.1.length + 10) (x.2.2.2.2.2.1, x.2.2.2.2.2.2.2.1.2.2.1)
  got x := x.2.1.2.1
  did x := x.2.2.2.2.1
  enc x a d := Sum.inl (((), ((x.2.1.1, x.2.1.2.1, (), x.2.1.2.2.2.1, ()), ((), ()), (x.2.2.2.1.1, ()), d, a, ())))
  stop x d := Sum.inr ((((), ()), ((x.2.1.1, x.2.1.2.1, (), (), ()), (), (), d, (), ())))
theorem eachAL0_raw (sp_load : load_T) (sp_next : next_T) (sp_edge : edge_T) (sp_none : none_T) (sp_aroundC : aroundC_T) (c : Cfg) (got : List Int) (held : List Int) (sd : Sid) (did : List Acc) (us : List Int) (v12 : Sid) (v14 : Int) (v15 : Int) : runW 5 Tryz.f95 0 [3, 6, 8] eachAL0vs eachAL0os eachAL0fin [(80, load_C sp_load), (103, next_C sp_next), (82, edge_C sp_edge), (74, none_C sp_none), (125, aroundC_C sp_aroundC)] [] [] (((((), (), ()), (), (), ()), ((c, got, (), held, ()), ((), ()), (sd, ()), did, us, (v12, ()), ((), v14, v15, ()), ())) : VhL eachAL0vs × OShL eachAL0os) = ((sp_none ((((), v14, v15, ()), ()), (c, got, (), held, ()), did, ())).bind fun val => selim val (fun val => bif !val.1.1 then (sp_aroundC ((((), v14, v15, ()), (), (), ()), (val.2.1.1, val.2.1.2.1, (), val.2.1.2.2.2.1, ()), ((), ()), (sd, ()), val.2.2.1, us, ())).bind fun val => selim val (fun val => (sp_next ((((), v14, v15, ()), v12.link, ()), (val.2.1.1, val.2.1.2.1, (), val.2.1.2.2.2.1, ()), val.2.2.2.2.1, ())).bind fun val_1 => selim val_1 (fun val_2 => some (Sum.inl ((((), (), ()), (), (), ()), (val_2.2.1.1, val_2.2.1.2.1, (), val_2.2.1.2.2.2.1, ()), ((), ()), (val.2.2.2.1.1, ()), val_2.2.2.1, val.2.2.2.2.2.1, (v12, ()), ((), val_2.1.1.2.1, val_2.1.1.2.2.1, ()), ()))) fun val => some (Sum.inr (Sum.inr (((), ()), (val.2.1.1, val.2.1.2.1, (), (), ()), (), (), val.2.2.1, (), ())))) fun val => some (Sum.inr (Sum.inr (((), ()), (val.2.1.1, val.2.1.2.1, (), (), ()), (), (), val.2.2.2.2.1, (), ()))) else some (Sum.inr (Sum.inl ((), (val.2.1.1, val.2.1.2.1, (), val.2.1.2.2.2.1, ()), ((), ()), (sd, ()), val.2.2.1, us, ())))) fun val => some (Sum.inr (Sum.inr (((), ()), (val.2.1.1, val.2.1.2.1, (), (), ()), (), (), val.2.2.1, (), ())))) := by kernel_rfl
theorem eachAL0_ok : LOk Tryz.prog gl 5 (LCon.of Tryz.f95.ntmps [3, 6, 8] eachAL0vs eachAL0os eachAL0fin (Ifc.spec eachAL0I)) (getL (body Tryz.f95) 0) := by
  refine lwk (Lc := []) (nh := []) (G := [(80, load_C (Ifc.spec loadI)), (103, next_C (Ifc.spec nextI)), (82, edge_C (Ifc.spec edgeI)), (74, none_C (Ifc.spec noneI)), (125, aroundC_C (Ifc.spec aroundCI))]) (GOk.cons load_g load_ok (GOk.cons next_g next_ok (GOk.cons edge_g edge_ok (GOk.cons none_g none_ok (GOk.cons aroundC_g aroundC_ok (GOk.nil)))))) (noloopN (by kernel_rfl)) (Fin.or_ok (Fin.one_ok _ _ _ _) (Fin.pan_ok _ _ _)) ?_
  rintro ⟨⟨⟨_, _, _⟩, _, _, _⟩, ⟨⟨c, got, _, held, _⟩, ⟨_, _⟩, ⟨sd, _⟩, did, us, ⟨v12, _⟩, ⟨_, v14, v15, _⟩, _⟩⟩ y hy
  refine ⟨_, loopT_ok (eX := fun (st : List Int × Int) (d : List Acc) => (let us := st.1; let v15 := st.2; ((((), (), ()), (), (), ()), ((c, got, (), held, ()), ((), ()), (sd, ()), d, us, (v12, ()), ((), v14, v15, ()), ())) : VhL eachAL0vs × OShL eachAL0os)) (body := eachAL0Step c got held sd v12 v14) (fun st d => ?_) _ (us, v15) did y hy⟩
  obtain ⟨us, v15⟩ := st
  refine (eachAL0_raw (Ifc.spec loadI) (Ifc.spec nextI) (Ifc.spec edgeI) (Ifc.spec noneI) (Ifc.spec aroundCI) c got held sd d us v12 v14 v15).trans ?_
  unfold eachAL0Step
  repeat' (first | refine cond_out (fun _ => ?_) (fun _ => ?_) | (refine (retI (by with_reducible rfl)).trans ?_; try dsimp only [selim, cond_true, cond_false, Bool.not_true, Bool.not_false, one, none1, mI, loadI, nextI, edgeI, noneI, aroundCI]) | (refine bindI rfl rfl (fun _ _ => ?_) (fun _ => rfl); try dsimp only [selim, cond_true, cond_false, Bool.not_true, Bool.not_false, one, none1, mI, loadI, nextI, edgeI, noneI, aroundCI]) | rfl)
def eachATr (w : Int) (r : Int) (s : Sid) (c : Cfg) (got : List Int) (held : List Int) (sd : Sid) (us : List Int) : T (List Int) :=
 (loadTr w r s.head c got held).bind fun x0 =>
 (T.loop (eachAL0Step c got held sd s 2) (got.length + 10) (us, x0)).bind fun x2 =>
 .ret x2
@[reducible] def eachAI : Ifc (VhL [pm, rc, .s (.e (.st .sid)), .clo 125 [.ptr 1 0, .ptr 2 0]] × OShL cdfq0) ((VhL [] × OShL cdfq0) ⊕ (VhL [.agg []] × OShL cdfq1)) where
  α := List Int
  tr x := eachATr x.1.2.1.2.1 x.1.2.1.2.2.1 x.1.2.2.1 x.2.1.1 x.2.1.2.1 x.2.1.2.2.2.1 x.2.2.2.1.1 x.2.2.2.2.2.1
  got x := x.2.1.2.1
  did x := x.2.2.2.2.1
  enc x a d := Sum.inl (((), ((x.2.1.1, x.2.1.2.1, (), x.2.1.2.2.2.1, ()), ((), ()), (x.2.2.2.1.1, ()), d, a, ())))
  stop x d := Sum.inr ((((), ()), ((x.2.1.1, x.2.1.2.1, (), (), ()), (), (), d, (), ())))
abbrev eachA_T : Type := VhL [pm, rc, .s (.e (.st .sid)), .clo 125 [.ptr 1 0, .ptr 2 0]] × OShL cdfq0 → Option ((VhL [] × OShL cdfq0) ⊕ (VhL [.agg []] × OShL cdfq1))
noncomputable abbrev eachA_C (sp : eachA_T) : Con := cq [pm, rc, .s (.e (.st .sid)), .clo 125 [.ptr 1 0, .ptr 2 0]] cdfq0 [] cdfq0 cdfq1 sp
theorem eachA_g : Callable Tryz.prog 95 := ⟨Tryz.f95, body Tryz.f95, by kernel_rfl, by kernel_rfl, by kernel_rfl⟩
theorem eachA_raw (sp_load : load_T) (sp_next : next_T) (sp_edge : edge_T) (sp_none : none_T) (sp_aroundC : aroundC_T) (sp_eachAL0 : VhL eachAL0vs × OShL eachAL0os → Option eachAL0fin.Y) (w : Int) (r : Int) (s : Sid) (c : Cfg) (got : List Int) (held : List Int) (sd : Sid) (did : List Acc) (us : List Int) : runQ Tryz.f95 [pm, rc, .s (.e (.st .sid)), .clo 125 [.ptr 1 0, .ptr 2 0]] cdfq0 [] cdfq0 cdfq1 [(80, load_C sp_load), (103, next_C sp_next), (82, edge_C sp_edge), (74, none_C sp_none), (125, aroundC_C sp_aroundC)] [(2, LCon.of Tryz.f95.ntmps [3, 6, 8] eachAL0vs eachAL0os eachAL0fin sp_eachAL0)] [] ((((), ((), w, r, ()), s, ((), (), ()), ()), ((c, got, (), held, ()), ((), ()), (sd, ()), did, us, ())) : VhL [pm, rc, .s (.e (.st .sid)), .clo 125 [.ptr 1 0, .ptr 2 0]] × OShL cdfq0) = ((sp_load ((((), w, r, ()), s.head, ()), (c, got, (), held, ()), did, ())).bind fun val => selim val (fun val => (sp_edge (((), val.1.1, ()), (val.2.1.1, val.2.1.2.1, (), val.2.1.2.2.2.1, ()), val.2.2.1, ())).bind fun val => selim val (fun val => (sp_eachAL0 ((((), (), ()), (), (), ()), (val.2.1.1, val.2.1.2.1, (), val.2.1.2.2.2.1, ()), ((), ()), (sd, ()), val.2.2.1, us, (s, ()), ((), val.1.1.2.1, val.1.1.2.2.1, ()), ())).bind fun val => selim val (fun val => some (Sum.inl ((), (val.2.1.1, val.2.1.2.1, (), val.2.1.2.2.2.1, ()), ((), ()), (val.2.2.2.1.1, ()), val.2.2.2.2.1, val.2.2.2.2.2.1, ()))) fun val => some (Sum.inr (((), ()), (val.2.1.1, val.2.1.2.1, (), (), ()), (), (), val.2.2.2.2.1, (), ()))) fun val => some (Sum.inr (((), ()), (val.2.1.1, val.2.1.2.1, (), (), ()), (), (), val.2.2.1, (), ()))) fun val => some (Sum.inr (((), ()), (val.2.1.1, val.2.1.2.1, (), (), ()), (), (), val.2.2.1, (), ()))) := by kernel_rfl
theorem eachA_ok : Sound Tryz.prog gl 95 (eachA_C (Ifc.spec eachAI)) := by
  refine cqk (fn := Tryz.f95) (G := [(80, load_C (Ifc.spec loadI)), (103, next_C (Ifc.spec nextI)), (82, edge_C (Ifc.spec edgeI)), (74, none_C (Ifc.spec noneI)), (125, aroundC_C (Ifc.spec aroundCI))]) (GOk.cons load_g load_ok (GOk.cons next_g next_ok (GOk.cons edge_g edge_ok (GOk.cons none_g none_ok (GOk.cons aroundC_g aroundC_ok (GOk.nil)))))) (by kernel_rfl) (by kernel_rfl) (Lc := [(2, LCon.of Tryz.f95.ntmps [3, 6, 8] eachAL0vs eachAL0os eachAL0fin (Ifc.spec eachAL0I))]) (nh := []) (lcok (bs := [getL (body Tryz.f95) 0]) (by kernel_rfl) ⟨lone_ok (q := (2, LCon.of Tryz.f95.ntmps [3, 6, 8] eachAL0vs eachAL0os eachAL0fin (Ifc.spec eachAL0I))) (by kernel_rfl) eachAL0_ok, trivial⟩) ?_
  rintro ⟨⟨_, ⟨_, w, r, _⟩, s, ⟨_, _, _⟩, _⟩, ⟨⟨c, got, _, held, _⟩, ⟨_, _⟩, ⟨sd, _⟩, did, us, _⟩⟩
  refine (eachA_raw (Ifc.spec loadI) (Ifc.spec nextI) (Ifc.spec edgeI) (Ifc.spec noneI) (Ifc.spec aroundCI) (Ifc.spec eachAL0I) w r s c got held sd did us).trans ?_
  show _ = outG (eachAI.enc (((), ((), w, r, ()), s, ((), (), ()), ()), ((c, got, (), held, ()), ((), ()), (sd, ()), did, us, ()))) (eachAI.stop (((), ((), w, r, ()), s, ((), (), ()), ()), ((c, got, (), held, ()), ((), ()), (sd, ()), did, us, ()))) ((eachATr w r s c got held sd us).exec got did)
  unfold eachATr
  repeat' (first | (refine (retI (by with_reducible rfl)).trans ?_; try dsimp only [selim, cond_true, cond_false, Bool.not_true, Bool.not_false, one, none1, mI, loadI, nextI, edgeI, noneI, aroundCI, eachAL0I]) | (refine bindI rfl rfl (fun _ _ => ?_) (fun _ => rfl); try dsimp only [selim, cond_true, cond_false, Bool.not_true, Bool.not_false, one, none1, mI, loadI, nextI, edgeI, noneI, aroundCI, eachAL0I]) | rfl)
def aroundTr (w : Int) (r : Int) (c : Cfg) (got : List Int) (held : List Int) : T (List Int) :=
 (eachATr w r (Sid.mk (rdE EK.int [1, 2] 0) (rdE EK.int [3, 4] 0) (rdE EK.int [1, 2] 0) (rdE EK.int [2, 1] 0)) c got held (Sid.mk (rdE EK.int [1, 2] 0) (rdE EK.int [3, 4] 0) (rdE EK.int [1, 2] 0) (rdE EK.int [2, 1] 0)) []).bind fun x0 =>
 (eachATr w r (Sid.mk (rdE EK.int [1, 2] (w64 (0 + 1))) (rdE EK.int [3, 4] (w64 (0 + 1))) (rdE EK.int [1, 2] (w64 (0 + 1))) (rdE EK.int [2, 1] (w64 (0 + 1)))) c got held (Sid.mk (rdE EK.int [1, 2] (w64 (0 + 1))) (rdE EK.int [3, 4] (w64 (0 + 1))) (rdE EK.int [1, 2] (w64 (0 + 1))) (rdE EK.int [2, 1] (w64 (0 + 1)))) x0).bind fun x1 =>
 .ret x1
@[reducible] def aroundI : Ifc (VhL [pm, rc] × OShL mach) ((VhL [.s (.own 2)] × OShL cdfq2) ⊕ (VhL [.agg []] × OShL machP)) where
  α := List Int
  tr x := aroundTr x.1.2.1.2.1 x.1.2.1.2.2.1 x.2.1.1 x.2.1.2.1 x.2.1.2.2.2.1
  got x := x.2.1.2.1
  did x := x.2.2.1
  enc x a d := Sum.inl ((((), ()), ((x.2.1.1, x.2.1.2.1, (), x.2.1.2.2.2.1, ()), d, a, ())))
  stop x d := Sum.inr ((((), ()), ((x.2.1.1, x.2.1.2.1, (), (), ()), d, ())))
abbrev around_T : Type := VhL [pm, rc] × OShL mach → Option ((VhL [.s (.own 2)] × OShL cdfq2) ⊕ (VhL [.agg []] × OShL machP))
noncomputable abbrev around_C (sp : around_T) : Con := cq [pm, rc] mach [.s (.own 2)] cdfq2 machP sp
theorem around_g : Callable Tryz.prog 118 := ⟨Tryz.f118, body Tryz.f118, by kernel_rfl, by kernel_rfl, by kernel_rfl⟩
theorem around_raw (sp_eachA : eachA_T) (w : Int) (r : Int) (c : Cfg) (got : List Int) (held : List Int) (did : List Acc) : runQ Tryz.f118 [pm, rc] mach [.s (.own 2)] cdfq2 machP [(95, eachA_C sp_eachA)] [] [(1, [(5, some 0, .int)])] ((((), ((), w, r, ()), ()), ((c, got, (), held, ()), did, ())) : VhL [pm, rc] × OShL mach) = ((sp_eachA (((), ((), w, r, ()), Sid.mk (rdE EK.int [1, 2] 0) (rdE EK.int [3, 4] 0) (rdE EK.int [1, 2] 0) (rdE EK.int [2, 1] 0), ((), (), ()), ()), (c, got, (), held, ()), ((), ()), (Sid.mk (rdE EK.int [1, 2] 0) (rdE EK.int [3, 4] 0) (rdE EK.int [1, 2] 0) (rdE EK.int [2, 1] 0), ()), did, [], ())).bind fun val => selim val (fun val => (sp_eachA (((), ((), w, r, ()), Sid.mk (rdE EK.int [1, 2] (w64 (0 + 1))) (rdE EK.int [3, 4] (w64 (0 + 1))) (rdE EK.int [1, 2] (w64 (0 + 1))) (rdE EK.int [2, 1] (w64 (0 + 1))), ((), (), ()), ()), (val.2.1.1, val.2.1.2.1, (), val.2.1.2.2.2.1, ()), ((), ()), (Sid.mk (rdE EK.int [1, 2] (w64 (0 + 1))) (rdE EK.int [3, 4] (w64 (0 + 1))) (rdE EK.int [1, 2] (w64 (0 + 1))) (rdE EK.int [2, 1] (w64 (0 + 1))), ()), val.2.2.2.2.1, val.2.2.2.2.2.1, ())).bind fun val => selim val (fun val => some (Sum.inl (((), ()), (val.2.1.1, val.2.1.2.1, (), val.2.1.2.2.2.1, ()), val.2.2.2.2.1, val.2.2.2.2.2.1, ()))) fun val => some (Sum.inr (((), ()), (val.2.1.1, val.2.1.2.1, (), (), ()), val.2.2.2.2.1, ()))) fun val => some (Sum.inr (((), ()), (val.2.1.1, val.2.1.2.1, (), (), ()), val.2.2.2.2.1, ()))) := by kernel_rfl
theorem around_ok : Sound Tryz.prog gl 118 (around_C (Ifc.spec aroundI)) := by
  refine cqk (fn := Tryz.f118) (G := [(95, eachA_C (Ifc.spec eachAI))]) (GOk.cons eachA_g eachA_ok (GOk.nil)) (by kernel_rfl) (by kernel_rfl) (Lc := []) (nh := [(1, [(5, some 0, .int)])]) (lcok (bs := [getL (body Tryz.f118) 0]) (by kernel_rfl) ⟨lnone_ok (by kernel_rfl), trivial⟩) ?_
  rintro ⟨⟨_, ⟨_, w, r, _⟩, _⟩, ⟨⟨c, got, _, held, _⟩, did, _⟩⟩
  refine (around_raw (Ifc.spec eachAI) w r c got held did).trans ?_
  show _ = outG (aroundI.enc (((), ((), w, r, ()), ()), ((c, got, (), held, ()), did, ()))) (aroundI.stop (((), ((), w, r, ()), ()), ((c, got, (), held, ()), did, ()))) ((aroundTr w r c got held).exec got did)
  unfold aroundTr
  repeat' (first | (refine bindI rfl rfl (fun _ _ => ?_) (fun _ => rfl); try dsimp only [selim, cond_true, cond_false, Bool.not_true, Bool.not_false, one, none1, mI, eachAI]) | rfl)
end Go.Ax.Cd
