/- The package code by contracts (printed by wip/tools/con3.py). -/
import Derived.Test.YteoeolfcpmalfaaGreatDoorQ13
namespace Go.Ax.Cd
open Go.Proofs
set_option linter.unusedVariables false
set_option maxRecDepth 100000
abbrev none1 (u : Unit) : VhL [] := ()
@[reducible] def nodeAtI : Ifc (VhL [vi] × OShL []) (VhL [vi] × OShL []) where
  α := Int
  tr x := T.ret ((fun (n : Int) => ((w64 (n + 1)))) x.1.1)
  got x := []
  did x := []
  enc x a d := ((a, ()), ())
  stop x d := ((0, ()), ())
abbrev nodeAt_T : Type := VhL [vi] × OShL [] → Option (VhL [vi] × OShL [])
noncomputable abbrev nodeAt_C (sp : nodeAt_T) : Con := Con.of [vi] [] [vi] [] sp
theorem nodeAt_g : Callable Tryz.prog 77 := ⟨Tryz.f77, body Tryz.f77, by kernel_rfl, by kernel_rfl, by kernel_rfl⟩
theorem nodeAt_raw (n : Int) : runN Tryz.f77 [vi] [] [vi] [] [] [] [] (((n, ()), ()) : VhL [vi] × OShL []) = (some ((w64 (n + 1), ()), ())) := by kernel_rfl
theorem nodeAt_ok : Sound Tryz.prog gl 77 (nodeAt_C (Ifc.spec nodeAtI)) := by
  refine cnk (fn := Tryz.f77) (G := []) (GOk.nil) (by kernel_rfl) (by kernel_rfl) (Lc := []) (nh := []) (noloopN (by kernel_rfl)) ?_
  rintro ⟨⟨n, _⟩, _⟩
  refine (nodeAt_raw n).trans ?_
  rfl
def loadTr (w : Int) (r : Int) (f : Int) (c : Cfg) (got : List Int) (held : List Int) : T (Int) :=
 (T.ask (Acc.mk 3 0 w r f 0) T.ret).bind fun x0 =>
 .ret x0
@[reducible] def loadI : Ifc (VhL [rc, vi] × OShL mach) ((VhL [vi] × OShL mach) ⊕ (VhL [.agg []] × OShL machP)) where
  α := Int
  tr x := loadTr x.1.1.2.1 x.1.1.2.2.1 x.1.2.1 x.2.1.1 x.2.1.2.1 x.2.1.2.2.2.1
  got x := x.2.1.2.1
  did x := x.2.2.1
  enc x a d := Sum.inl (((a, ()), ((x.2.1.1, x.2.1.2.1, (), x.2.1.2.2.2.1, ()), d, ())))
  stop x d := Sum.inr ((((), ()), ((x.2.1.1, x.2.1.2.1, (), (), ()), d, ())))
abbrev load_T : Type := VhL [rc, vi] × OShL mach → Option ((VhL [vi] × OShL mach) ⊕ (VhL [.agg []] × OShL machP))
noncomputable abbrev load_C (sp : load_T) : Con := cq [rc, vi] mach [vi] mach machP sp
theorem load_g : Callable Tryz.prog 80 := ⟨Tryz.f80, body Tryz.f80, by kernel_rfl, by kernel_rfl, by kernel_rfl⟩
theorem load_raw (sp_do : do_T) (w : Int) (r : Int) (f : Int) (c : Cfg) (got : List Int) (held : List Int) (did : List Acc) : runQ Tryz.f80 [rc, vi] mach [vi] mach machP [(26, do_C sp_do)] [] [] (((((), w, r, ()), f, ()), ((c, got, (), held, ()), did, ())) : VhL [rc, vi] × OShL mach) = ((sp_do (((), Acc.mk 3 0 w r f 0, ()), (c, got, (), held, ()), did, ())).bind fun val => selim val (fun val => some (Sum.inl ((val.1.1, ()), (val.2.1.1, val.2.1.2.1, (), val.2.1.2.2.2.1, ()), val.2.2.1, ()))) fun val => some (Sum.inr (((), ()), (val.2.1.1, val.2.1.2.1, (), (), ()), val.2.2.1, ()))) := by kernel_rfl
theorem load_ok : Sound Tryz.prog gl 80 (load_C (Ifc.spec loadI)) := by
  refine cqk (fn := Tryz.f80) (G := [(26, do_C (Ifc.spec doI))]) (GOk.cons do_g do_ok (GOk.nil)) (by kernel_rfl) (by kernel_rfl) (Lc := []) (nh := []) (noloopN (by kernel_rfl)) ?_
  rintro ⟨⟨⟨_, w, r, _⟩, f, _⟩, ⟨⟨c, got, _, held, _⟩, did, _⟩⟩
  refine (load_raw (Ifc.spec doI) w r f c got held did).trans ?_
  show _ = outG (loadI.enc ((((), w, r, ()), f, ()), ((c, got, (), held, ()), did, ()))) (loadI.stop ((((), w, r, ()), f, ()), ((c, got, (), held, ()), did, ()))) ((loadTr w r f c got held).exec got did)
  unfold loadTr
  repeat' (first | (refine bindI rfl rfl (fun _ _ => ?_) (fun _ => rfl); try dsimp only [selim, cond_true, cond_false, Bool.not_true, Bool.not_false, one, none1, mI, doI]) | rfl)
def storeTr (w : Int) (r : Int) (f : Int) (v : Int) (c : Cfg) (got : List Int) (held : List Int) : T (Unit) :=
 (T.ask (Acc.mk 4 0 w r f v) T.ret).bind fun x0 =>
 .ret ()
@[reducible] def storeI : Ifc (VhL [rc, vi, vi] × OShL mach) ((VhL [] × OShL mach) ⊕ (VhL [.agg []] × OShL machP)) where
  α := Unit
  tr x := storeTr x.1.1.2.1 x.1.1.2.2.1 x.1.2.1 x.1.2.2.1 x.2.1.1 x.2.1.2.1 x.2.1.2.2.2.1
  got x := x.2.1.2.1
  did x := x.2.2.1
  enc x a d := Sum.inl (((), ((x.2.1.1, x.2.1.2.1, (), x.2.1.2.2.2.1, ()), d, ())))
  stop x d := Sum.inr ((((), ()), ((x.2.1.1, x.2.1.2.1, (), (), ()), d, ())))
abbrev store_T : Type := VhL [rc, vi, vi] × OShL mach → Option ((VhL [] × OShL mach) ⊕ (VhL [.agg []] × OShL machP))
noncomputable abbrev store_C (sp : store_T) : Con := cq [rc, vi, vi] mach [] mach machP sp
theorem store_g : Callable Tryz.prog 75 := ⟨Tryz.f75, body Tryz.f75, by kernel_rfl, by kernel_rfl, by kernel_rfl⟩
theorem store_raw (sp_do : do_T) (w : Int) (r : Int) (f : Int) (v : Int) (c : Cfg) (got : List Int) (held : List Int) (did : List Acc) : runQ Tryz.f75 [rc, vi, vi] mach [] mach machP [(26, do_C sp_do)] [] [] (((((), w, r, ()), f, v, ()), ((c, got, (), held, ()), did, ())) : VhL [rc, vi, vi] × OShL mach) = ((sp_do (((), Acc.mk 4 0 w r f v, ()), (c, got, (), held, ()), did, ())).bind fun val => selim val (fun val => some (Sum.inl ((), (val.2.1.1, val.2.1.2.1, (), val.2.1.2.2.2.1, ()), val.2.2.1, ()))) fun val => some (Sum.inr (((), ()), (val.2.1.1, val.2.1.2.1, (), (), ()), val.2.2.1, ()))) := by kernel_rfl
theorem store_ok : Sound Tryz.prog gl 75 (store_C (Ifc.spec storeI)) := by
  refine cqk (fn := Tryz.f75) (G := [(26, do_C (Ifc.spec doI))]) (GOk.cons do_g do_ok (GOk.nil)) (by kernel_rfl) (by kernel_rfl) (Lc := []) (nh := []) (noloopN (by kernel_rfl)) ?_
  rintro ⟨⟨⟨_, w, r, _⟩, f, v, _⟩, ⟨⟨c, got, _, held, _⟩, did, _⟩⟩
  refine (store_raw (Ifc.spec doI) w r f v c got held did).trans ?_
  show _ = outG (storeI.enc ((((), w, r, ()), f, v, ()), ((c, got, (), held, ()), did, ()))) (storeI.stop ((((), w, r, ()), f, v, ()), ((c, got, (), held, ()), did, ()))) ((storeTr w r f v c got held).exec got did)
  unfold storeTr
  repeat' (first | (refine bindI rfl rfl (fun _ _ => ?_) (fun _ => rfl); try dsimp only [selim, cond_true, cond_false, Bool.not_true, Bool.not_false, one, none1, mI, doI]) | rfl)
def retireTr (w : Int) (r : Int) (c : Cfg) (got : List Int) (held : List Int) : T (Unit) :=
 (T.ask (Acc.mk 9 0 w r 0 0) T.ret).bind fun x0 =>
 .ret ()
@[reducible] def retireI : Ifc (VhL [rc] × OShL mach) ((VhL [] × OShL mach) ⊕ (VhL [.agg []] × OShL machP)) where
  α := Unit
  tr x := retireTr x.1.1.2.1 x.1.1.2.2.1 x.2.1.1 x.2.1.2.1 x.2.1.2.2.2.1
  got x := x.2.1.2.1
  did x := x.2.2.1
  enc x a d := Sum.inl (((), ((x.2.1.1, x.2.1.2.1, (), x.2.1.2.2.2.1, ()), d, ())))
  stop x d := Sum.inr ((((), ()), ((x.2.1.1, x.2.1.2.1, (), (), ()), d, ())))
abbrev retire_T : Type := VhL [rc] × OShL mach → Option ((VhL [] × OShL mach) ⊕ (VhL [.agg []] × OShL machP))
noncomputable abbrev retire_C (sp : retire_T) : Con := cq [rc] mach [] mach machP sp
theorem retire_g : Callable Tryz.prog 85 := ⟨Tryz.f85, body Tryz.f85, by kernel_rfl, by kernel_rfl, by kernel_rfl⟩
theorem retire_raw (sp_do : do_T) (w : Int) (r : Int) (c : Cfg) (got : List Int) (held : List Int) (did : List Acc) : runQ Tryz.f85 [rc] mach [] mach machP [(26, do_C sp_do)] [] [] (((((), w, r, ()), ()), ((c, got, (), held, ()), did, ())) : VhL [rc] × OShL mach) = ((sp_do (((), Acc.mk 9 0 w r 0 0, ()), (c, got, (), held, ()), did, ())).bind fun val => selim val (fun val => some (Sum.inl ((), (val.2.1.1, val.2.1.2.1, (), val.2.1.2.2.2.1, ()), val.2.2.1, ()))) fun val => some (Sum.inr (((), ()), (val.2.1.1, val.2.1.2.1, (), (), ()), val.2.2.1, ()))) := by kernel_rfl
theorem retire_ok : Sound Tryz.prog gl 85 (retire_C (Ifc.spec retireI)) := by
  refine cqk (fn := Tryz.f85) (G := [(26, do_C (Ifc.spec doI))]) (GOk.cons do_g do_ok (GOk.nil)) (by kernel_rfl) (by kernel_rfl) (Lc := []) (nh := []) (noloopN (by kernel_rfl)) ?_
  rintro ⟨⟨⟨_, w, r, _⟩, _⟩, ⟨⟨c, got, _, held, _⟩, did, _⟩⟩
  refine (retire_raw (Ifc.spec doI) w r c got held did).trans ?_
  show _ = outG (retireI.enc ((((), w, r, ()), ()), ((c, got, (), held, ()), did, ()))) (retireI.stop ((((), w, r, ()), ()), ((c, got, (), held, ()), did, ()))) ((retireTr w r c got held).exec got did)
  unfold retireTr
  repeat' (first | (refine bindI rfl rfl (fun _ _ => ?_) (fun _ => rfl); try dsimp only [selim, cond_true, cond_false, Bool.not_true, Bool.not_false, one, none1, mI, doI]) | rfl)
def wordTr (n : Int) (c : Cfg) (got : List Int) (held : List Int) : T (Int) :=
 (T.ask (Acc.mk 3 n 0 0 0 0) T.ret).bind fun x0 =>
 .ret x0
@[reducible] def wordI : Ifc (VhL [pm, vi] × OShL mach) ((VhL [vi] × OShL mach) ⊕ (VhL [.agg []] × OShL machP)) where
  α := Int
  tr x := wordTr x.1.2.1 x.2.1.1 x.2.1.2.1 x.2.1.2.2.2.1
  got x := x.2.1.2.1
  did x := x.2.2.1
  enc x a d := Sum.inl (((a, ()), ((x.2.1.1, x.2.1.2.1, (), x.2.1.2.2.2.1, ()), d, ())))
  stop x d := Sum.inr ((((), ()), ((x.2.1.1, x.2.1.2.1, (), (), ()), d, ())))
abbrev word_T : Type := VhL [pm, vi] × OShL mach → Option ((VhL [vi] × OShL mach) ⊕ (VhL [.agg []] × OShL machP))
noncomputable abbrev word_C (sp : word_T) : Con := cq [pm, vi] mach [vi] mach machP sp
theorem word_g : Callable Tryz.prog 72 := ⟨Tryz.f72, body Tryz.f72, by kernel_rfl, by kernel_rfl, by kernel_rfl⟩
theorem word_raw (sp_do : do_T) (n : Int) (c : Cfg) (got : List Int) (held : List Int) (did : List Acc) : runQ Tryz.f72 [pm, vi] mach [vi] mach machP [(26, do_C sp_do)] [] [] ((((), n, ()), ((c, got, (), held, ()), did, ())) : VhL [pm, vi] × OShL mach) = ((sp_do (((), Acc.mk 3 n 0 0 0 0, ()), (c, got, (), held, ()), did, ())).bind fun val => selim val (fun val => some (Sum.inl ((val.1.1, ()), (val.2.1.1, val.2.1.2.1, (), val.2.1.2.2.2.1, ()), val.2.2.1, ()))) fun val => some (Sum.inr (((), ()), (val.2.1.1, val.2.1.2.1, (), (), ()), val.2.2.1, ()))) := by kernel_rfl
theorem word_ok : Sound Tryz.prog gl 72 (word_C (Ifc.spec wordI)) := by
  refine cqk (fn := Tryz.f72) (G := [(26, do_C (Ifc.spec doI))]) (GOk.cons do_g do_ok (GOk.nil)) (by kernel_rfl) (by kernel_rfl) (Lc := []) (nh := []) (noloopN (by kernel_rfl)) ?_
  rintro ⟨⟨_, n, _⟩, ⟨⟨c, got, _, held, _⟩, did, _⟩⟩
  refine (word_raw (Ifc.spec doI) n c got held did).trans ?_
  show _ = outG (wordI.enc (((), n, ()), ((c, got, (), held, ()), did, ()))) (wordI.stop (((), n, ()), ((c, got, (), held, ()), did, ()))) ((wordTr n c got held).exec got did)
  unfold wordTr
  repeat' (first | (refine bindI rfl rfl (fun _ _ => ?_) (fun _ => rfl); try dsimp only [selim, cond_true, cond_false, Bool.not_true, Bool.not_false, one, none1, mI, doI]) | rfl)
def seeTr (n : Int) (c : Cfg) (got : List Int) (held : List Int) : T (Int) :=
 (T.ask (Acc.mk 7 n 0 0 0 0) T.ret).bind fun x0 =>
 .ret x0
@[reducible] def seeI : Ifc (VhL [pm, vi] × OShL mach) ((VhL [vi] × OShL mach) ⊕ (VhL [.agg []] × OShL machP)) where
  α := Int
  tr x := seeTr x.1.2.1 x.2.1.1 x.2.1.2.1 x.2.1.2.2.2.1
  got x := x.2.1.2.1
  did x := x.2.2.1
  enc x a d := Sum.inl (((a, ()), ((x.2.1.1, x.2.1.2.1, (), x.2.1.2.2.2.1, ()), d, ())))
  stop x d := Sum.inr ((((), ()), ((x.2.1.1, x.2.1.2.1, (), (), ()), d, ())))
abbrev see_T : Type := VhL [pm, vi] × OShL mach → Option ((VhL [vi] × OShL mach) ⊕ (VhL [.agg []] × OShL machP))
noncomputable abbrev see_C (sp : see_T) : Con := cq [pm, vi] mach [vi] mach machP sp
theorem see_g : Callable Tryz.prog 90 := ⟨Tryz.f90, body Tryz.f90, by kernel_rfl, by kernel_rfl, by kernel_rfl⟩
theorem see_raw (sp_do : do_T) (n : Int) (c : Cfg) (got : List Int) (held : List Int) (did : List Acc) : runQ Tryz.f90 [pm, vi] mach [vi] mach machP [(26, do_C sp_do)] [] [] ((((), n, ()), ((c, got, (), held, ()), did, ())) : VhL [pm, vi] × OShL mach) = ((sp_do (((), Acc.mk 7 n 0 0 0 0, ()), (c, got, (), held, ()), did, ())).bind fun val => selim val (fun val => some (Sum.inl ((val.1.1, ()), (val.2.1.1, val.2.1.2.1, (), val.2.1.2.2.2.1, ()), val.2.2.1, ()))) fun val => some (Sum.inr (((), ()), (val.2.1.1, val.2.1.2.1, (), (), ()), val.2.2.1, ()))) := by kernel_rfl
theorem see_ok : Sound Tryz.prog gl 90 (see_C (Ifc.spec seeI)) := by
  refine cqk (fn := Tryz.f90) (G := [(26, do_C (Ifc.spec doI))]) (GOk.cons do_g do_ok (GOk.nil)) (by kernel_rfl) (by kernel_rfl) (Lc := []) (nh := []) (noloopN (by kernel_rfl)) ?_
  rintro ⟨⟨_, n, _⟩, ⟨⟨c, got, _, held, _⟩, did, _⟩⟩
  refine (see_raw (Ifc.spec doI) n c got held did).trans ?_
  show _ = outG (seeI.enc (((), n, ()), ((c, got, (), held, ()), did, ()))) (seeI.stop (((), n, ()), ((c, got, (), held, ()), did, ()))) ((seeTr n c got held).exec got did)
  unfold seeTr
  repeat' (first | (refine bindI rfl rfl (fun _ _ => ?_) (fun _ => rfl); try dsimp only [selim, cond_true, cond_false, Bool.not_true, Bool.not_false, one, none1, mI, doI]) | rfl)
def setTr (n : Int) (v : Int) (c : Cfg) (got : List Int) (held : List Int) : T (Unit) :=
 (T.ask (Acc.mk 4 n 0 0 0 v) T.ret).bind fun x0 =>
 .ret ()
@[reducible] def setI : Ifc (VhL [pm, vi, vi] × OShL mach) ((VhL [] × OShL mach) ⊕ (VhL [.agg []] × OShL machP)) where
  α := Unit
  tr x := setTr x.1.2.1 x.1.2.2.1 x.2.1.1 x.2.1.2.1 x.2.1.2.2.2.1
  got x := x.2.1.2.1
  did x := x.2.2.1
  enc x a d := Sum.inl (((), ((x.2.1.1, x.2.1.2.1, (), x.2.1.2.2.2.1, ()), d, ())))
  stop x d := Sum.inr ((((), ()), ((x.2.1.1, x.2.1.2.1, (), (), ()), d, ())))
abbrev set_T : Type := VhL [pm, vi, vi] × OShL mach → Option ((VhL [] × OShL mach) ⊕ (VhL [.agg []] × OShL machP))
noncomputable abbrev set_C (sp : set_T) : Con := cq [pm, vi, vi] mach [] mach machP sp
theorem set_g : Callable Tryz.prog 76 := ⟨Tryz.f76, body Tryz.f76, by kernel_rfl, by kernel_rfl, by kernel_rfl⟩
theorem set_raw (sp_do : do_T) (n : Int) (v : Int) (c : Cfg) (got : List Int) (held : List Int) (did : List Acc) : runQ Tryz.f76 [pm, vi, vi] mach [] mach machP [(26, do_C sp_do)] [] [] ((((), n, v, ()), ((c, got, (), held, ()), did, ())) : VhL [pm, vi, vi] × OShL mach) = ((sp_do (((), Acc.mk 4 n 0 0 0 v, ()), (c, got, (), held, ()), did, ())).bind fun val => selim val (fun val => some (Sum.inl ((), (val.2.1.1, val.2.1.2.1, (), val.2.1.2.2.2.1, ()), val.2.2.1, ()))) fun val => some (Sum.inr (((), ()), (val.2.1.1, val.2.1.2.1, (), (), ()), val.2.2.1, ()))) := by kernel_rfl
theorem set_ok : Sound Tryz.prog gl 76 (set_C (Ifc.spec setI)) := by
  refine cqk (fn := Tryz.f76) (G := [(26, do_C (Ifc.spec doI))]) (GOk.cons do_g do_ok (GOk.nil)) (by kernel_rfl) (by kernel_rfl) (Lc := []) (nh := []) (noloopN (by kernel_rfl)) ?_
  rintro ⟨⟨_, n, v, _⟩, ⟨⟨c, got, _, held, _⟩, did, _⟩⟩
  refine (set_raw (Ifc.spec doI) n v c got held did).trans ?_
  show _ = outG (setI.enc (((), n, v, ()), ((c, got, (), held, ()), did, ()))) (setI.stop (((), n, v, ()), ((c, got, (), held, ()), did, ()))) ((setTr n v c got held).exec got did)
  unfold setTr
  repeat' (first | (refine bindI rfl rfl (fun _ _ => ?_) (fun _ => rfl); try dsimp only [selim, cond_true, cond_false, Bool.not_true, Bool.not_false, one, none1, mI, doI]) | rfl)
def takeTr (w : Int) (c : Cfg) (got : List Int) (held : List Int) : T (Int) :=
 (T.ask (Acc.mk 8 0 w 0 0 0) T.ret).bind fun x0 =>
 .ret x0
@[reducible] def takeI : Ifc (VhL [pm, vi] × OShL mach) ((VhL [rc] × OShL mach) ⊕ (VhL [.agg []] × OShL machP)) where
  α := Int
  tr x := takeTr x.1.2.1 x.2.1.1 x.2.1.2.1 x.2.1.2.2.2.1
  got x := x.2.1.2.1
  did x := x.2.2.1
  enc x a d := Sum.inl (((((), x.1.2.1, a, ()), ()), ((x.2.1.1, x.2.1.2.1, (), x.2.1.2.2.2.1, ()), d, ())))
  stop x d := Sum.inr ((((), ()), ((x.2.1.1, x.2.1.2.1, (), (), ()), d, ())))
abbrev take_T : Type := VhL [pm, vi] × OShL mach → Option ((VhL [rc] × OShL mach) ⊕ (VhL [.agg []] × OShL machP))
noncomputable abbrev take_C (sp : take_T) : Con := cq [pm, vi] mach [rc] mach machP sp
theorem take_g : Callable Tryz.prog 73 := ⟨Tryz.f73, body Tryz.f73, by kernel_rfl, by kernel_rfl, by kernel_rfl⟩
theorem take_raw (sp_do : do_T) (w : Int) (c : Cfg) (got : List Int) (held : List Int) (did : List Acc) : runQ Tryz.f73 [pm, vi] mach [rc] mach machP [(26, do_C sp_do)] [] [] ((((), w, ()), ((c, got, (), held, ()), did, ())) : VhL [pm, vi] × OShL mach) = ((sp_do (((), Acc.mk 8 0 w 0 0 0, ()), (c, got, (), held, ()), did, ())).bind fun val => selim val (fun val => some (Sum.inl ((((), w, val.1.1, ()), ()), (val.2.1.1, val.2.1.2.1, (), val.2.1.2.2.2.1, ()), val.2.2.1, ()))) fun val => some (Sum.inr (((), ()), (val.2.1.1, val.2.1.2.1, (), (), ()), val.2.2.1, ()))) := by kernel_rfl
theorem take_ok : Sound Tryz.prog gl 73 (take_C (Ifc.spec takeI)) := by
  refine cqk (fn := Tryz.f73) (G := [(26, do_C (Ifc.spec doI))]) (GOk.cons do_g do_ok (GOk.nil)) (by kernel_rfl) (by kernel_rfl) (Lc := []) (nh := []) (noloopN (by kernel_rfl)) ?_
  rintro ⟨⟨_, w, _⟩, ⟨⟨c, got, _, held, _⟩, did, _⟩⟩
  refine (take_raw (Ifc.spec doI) w c got held did).trans ?_
  show _ = outG (takeI.enc (((), w, ()), ((c, got, (), held, ()), did, ()))) (takeI.stop (((), w, ()), ((c, got, (), held, ()), did, ()))) ((takeTr w c got held).exec got did)
  unfold takeTr
  repeat' (first | (refine bindI rfl rfl (fun _ _ => ?_) (fun _ => rfl); try dsimp only [selim, cond_true, cond_false, Bool.not_true, Bool.not_false, one, none1, mI, doI]) | rfl)
def nextTr (w : Int) (r : Int) (f : Int) (c : Cfg) (got : List Int) (held : List Int) : T (Int) :=
 (loadTr w r f c got held).bind fun x0 =>
 .ret x0
@[reducible] def nextI : Ifc (VhL [rc, vi] × OShL mach) ((VhL [rc] × OShL mach) ⊕ (VhL [.agg []] × OShL machP)) where
  α := Int
  tr x := nextTr x.1.1.2.1 x.1.1.2.2.1 x.1.2.1 x.2.1.1 x.2.1.2.1 x.2.1.2.2.2.1
  got x := x.2.1.2.1
  did x := x.2.2.1
  enc x a d := Sum.inl (((((), x.1.1.2.1, a, ()), ()), ((x.2.1.1, x.2.1.2.1, (), x.2.1.2.2.2.1, ()), d, ())))
  stop x d := Sum.inr ((((), ()), ((x.2.1.1, x.2.1.2.1, (), (), ()), d, ())))
abbrev next_T : Type := VhL [rc, vi] × OShL mach → Option ((VhL [rc] × OShL mach) ⊕ (VhL [.agg []] × OShL machP))
noncomputable abbrev next_C (sp : next_T) : Con := cq [rc, vi] mach [rc] mach machP sp
theorem next_g : Callable Tryz.prog 103 := ⟨Tryz.f103, body Tryz.f103, by kernel_rfl, by kernel_rfl, by kernel_rfl⟩
theorem next_raw (sp_load : load_T) (w : Int) (r : Int) (f : Int) (c : Cfg) (got : List Int) (held : List Int) (did : List Acc) : runQ Tryz.f103 [rc, vi] mach [rc] mach machP [(80, load_C sp_load)] [] [] (((((), w, r, ()), f, ()), ((c, got, (), held, ()), did, ())) : VhL [rc, vi] × OShL mach) = ((sp_load ((((), w, r, ()), f, ()), (c, got, (), held, ()), did, ())).bind fun val => selim val (fun val => some (Sum.inl ((((), w, val.1.1, ()), ()), (val.2.1.1, val.2.1.2.1, (), val.2.1.2.2.2.1, ()), val.2.2.1, ()))) fun val => some (Sum.inr (((), ()), (val.2.1.1, val.2.1.2.1, (), (), ()), val.2.2.1, ()))) := by kernel_rfl
theorem next_ok : Sound Tryz.prog gl 103 (next_C (Ifc.spec nextI)) := by
  refine cqk (fn := Tryz.f103) (G := [(80, load_C (Ifc.spec loadI))]) (GOk.cons load_g load_ok (GOk.nil)) (by kernel_rfl) (by kernel_rfl) (Lc := []) (nh := []) (noloopN (by kernel_rfl)) ?_
  rintro ⟨⟨⟨_, w, r, _⟩, f, _⟩, ⟨⟨c, got, _, held, _⟩, did, _⟩⟩
  refine (next_raw (Ifc.spec loadI) w r f c got held did).trans ?_
  show _ = outG (nextI.enc ((((), w, r, ()), f, ()), ((c, got, (), held, ()), did, ()))) (nextI.stop ((((), w, r, ()), f, ()), ((c, got, (), held, ()), did, ()))) ((nextTr w r f c got held).exec got did)
  unfold nextTr
  repeat' (first | (refine bindI rfl rfl (fun _ _ => ?_) (fun _ => rfl); try dsimp only [selim, cond_true, cond_false, Bool.not_true, Bool.not_false, one, none1, mI, loadI]) | rfl)
@[reducible] def nodeI : Ifc (VhL [pm, vi] × OShL mach) ((VhL [rc] × OShL mach) ⊕ (VhL [.agg []] × OShL machP)) where
  α := Unit
  tr x := T.ret ((fun (r : Int) (c : Cfg) (got : List Int) (held : List Int) => (())) x.1.2.1 x.2.1.1 x.2.1.2.1 x.2.1.2.2.2.1)
  got x := x.2.1.2.1
  did x := x.2.2.1
  enc x a d := Sum.inl (((((), 1, x.1.2.1, ()), ()), ((x.2.1.1, x.2.1.2.1, (), x.2.1.2.2.2.1, ()), d, ())))
  stop x d := Sum.inr ((((), ()), ((x.2.1.1, x.2.1.2.1, (), (), ()), d, ())))
abbrev node_T : Type := VhL [pm, vi] × OShL mach → Option ((VhL [rc] × OShL mach) ⊕ (VhL [.agg []] × OShL machP))
noncomputable abbrev node_C (sp : node_T) : Con := cq [pm, vi] mach [rc] mach machP sp
theorem node_g : Callable Tryz.prog 113 := ⟨Tryz.f113, body Tryz.f113, by kernel_rfl, by kernel_rfl, by kernel_rfl⟩
theorem node_raw (r : Int) (c : Cfg) (got : List Int) (held : List Int) (did : List Acc) : runQ Tryz.f113 [pm, vi] mach [rc] mach machP [] [] [] ((((), r, ()), ((c, got, (), held, ()), did, ())) : VhL [pm, vi] × OShL mach) = (some (Sum.inl ((((), 1, r, ()), ()), (c, got, (), held, ()), did, ()))) := by kernel_rfl
theorem node_ok : Sound Tryz.prog gl 113 (node_C (Ifc.spec nodeI)) := by
  refine cqk (fn := Tryz.f113) (G := []) (GOk.nil) (by kernel_rfl) (by kernel_rfl) (Lc := []) (nh := []) (noloopN (by kernel_rfl)) ?_
  rintro ⟨⟨_, r, _⟩, ⟨⟨c, got, _, held, _⟩, did, _⟩⟩
  refine (node_raw r c got held did).trans ?_
  rfl
@[reducible] def edgeI : Ifc (VhL [pm, vi] × OShL mach) ((VhL [rc] × OShL mach) ⊕ (VhL [.agg []] × OShL machP)) where
  α := Unit
  tr x := T.ret ((fun (r : Int) (c : Cfg) (got : List Int) (held : List Int) => (())) x.1.2.1 x.2.1.1 x.2.1.2.1 x.2.1.2.2.2.1)
  got x := x.2.1.2.1
  did x := x.2.2.1
  enc x a d := Sum.inl (((((), 2, x.1.2.1, ()), ()), ((x.2.1.1, x.2.1.2.1, (), x.2.1.2.2.2.1, ()), d, ())))
  stop x d := Sum.inr ((((), ()), ((x.2.1.1, x.2.1.2.1, (), (), ()), d, ())))
abbrev edge_T : Type := VhL [pm, vi] × OShL mach → Option ((VhL [rc] × OShL mach) ⊕ (VhL [.agg []] × OShL machP))
noncomputable abbrev edge_C (sp : edge_T) : Con := cq [pm, vi] mach [rc] mach machP sp
theorem edge_g : Callable Tryz.prog 82 := ⟨Tryz.f82, body Tryz.f82, by kernel_rfl, by kernel_rfl, by kernel_rfl⟩
theorem edge_raw (r : Int) (c : Cfg) (got : List Int) (held : List Int) (did : List Acc) : runQ Tryz.f82 [pm, vi] mach [rc] mach machP [] [] [] ((((), r, ()), ((c, got, (), held, ()), did, ())) : VhL [pm, vi] × OShL mach) = (some (Sum.inl ((((), 2, r, ()), ()), (c, got, (), held, ()), did, ()))) := by kernel_rfl
theorem edge_ok : Sound Tryz.prog gl 82 (edge_C (Ifc.spec edgeI)) := by
  refine cqk (fn := Tryz.f82) (G := []) (GOk.nil) (by kernel_rfl) (by kernel_rfl) (Lc := []) (nh := []) (noloopN (by kernel_rfl)) ?_
  rintro ⟨⟨_, r, _⟩, ⟨⟨c, got, _, held, _⟩, did, _⟩⟩
  refine (edge_raw r c got held did).trans ?_
  rfl
@[reducible] def propI : Ifc (VhL [pm, vi] × OShL mach) ((VhL [rc] × OShL mach) ⊕ (VhL [.agg []] × OShL machP)) where
  α := Unit
  tr x := T.ret ((fun (r : Int) (c : Cfg) (got : List Int) (held : List Int) => (())) x.1.2.1 x.2.1.1 x.2.1.2.1 x.2.1.2.2.2.1)
  got x := x.2.1.2.1
  did x := x.2.2.1
  enc x a d := Sum.inl (((((), 3, x.1.2.1, ()), ()), ((x.2.1.1, x.2.1.2.1, (), x.2.1.2.2.2.1, ()), d, ())))
  stop x d := Sum.inr ((((), ()), ((x.2.1.1, x.2.1.2.1, (), (), ()), d, ())))
abbrev prop_T : Type := VhL [pm, vi] × OShL mach → Option ((VhL [rc] × OShL mach) ⊕ (VhL [.agg []] × OShL machP))
noncomputable abbrev prop_C (sp : prop_T) : Con := cq [pm, vi] mach [rc] mach machP sp
theorem prop_g : Callable Tryz.prog 86 := ⟨Tryz.f86, body Tryz.f86, by kernel_rfl, by kernel_rfl, by kernel_rfl⟩
theorem prop_raw (r : Int) (c : Cfg) (got : List Int) (held : List Int) (did : List Acc) : runQ Tryz.f86 [pm, vi] mach [rc] mach machP [] [] [] ((((), r, ()), ((c, got, (), held, ()), did, ())) : VhL [pm, vi] × OShL mach) = (some (Sum.inl ((((), 3, r, ()), ()), (c, got, (), held, ()), did, ()))) := by kernel_rfl
theorem prop_ok : Sound Tryz.prog gl 86 (prop_C (Ifc.spec propI)) := by
  refine cqk (fn := Tryz.f86) (G := []) (GOk.nil) (by kernel_rfl) (by kernel_rfl) (Lc := []) (nh := []) (noloopN (by kernel_rfl)) ?_
  rintro ⟨⟨_, r, _⟩, ⟨⟨c, got, _, held, _⟩, did, _⟩⟩
  refine (prop_raw r c got held did).trans ?_
  rfl
@[reducible] def noneI : Ifc (VhL [rc] × OShL mach) ((VhL [vb] × OShL mach) ⊕ (VhL [.agg []] × OShL machP)) where
  α := Bool
  tr x := T.ret ((fun (w : Int) (r : Int) (c : Cfg) (got : List Int) (held : List Int) => ((r == 0))) x.1.1.2.1 x.1.1.2.2.1 x.2.1.1 x.2.1.2.1 x.2.1.2.2.2.1)
  got x := x.2.1.2.1
  did x := x.2.2.1
  enc x a d := Sum.inl (((a, ()), ((x.2.1.1, x.2.1.2.1, (), x.2.1.2.2.2.1, ()), d, ())))
  stop x d := Sum.inr ((((), ()), ((x.2.1.1, x.2.1.2.1, (), (), ()), d, ())))
abbrev none_T : Type := VhL [rc] × OShL mach → Option ((VhL [vb] × OShL mach) ⊕ (VhL [.agg []] × OShL machP))
noncomputable abbrev none_C (sp : none_T) : Con := cq [rc] mach [vb] mach machP sp
theorem none_g : Callable Tryz.prog 74 := ⟨Tryz.f74, body Tryz.f74, by kernel_rfl, by kernel_rfl, by kernel_rfl⟩
theorem none_raw (w : Int) (r : Int) (c : Cfg) (got : List Int) (held : List Int) (did : List Acc) : runQ Tryz.f74 [rc] mach [vb] mach machP [] [] [] (((((), w, r, ()), ()), ((c, got, (), held, ()), did, ())) : VhL [rc] × OShL mach) = (some (Sum.inl ((r == 0, ()), (c, got, (), held, ()), did, ()))) := by kernel_rfl
theorem none_ok : Sound Tryz.prog gl 74 (none_C (Ifc.spec noneI)) := by
  refine cqk (fn := Tryz.f74) (G := []) (GOk.nil) (by kernel_rfl) (by kernel_rfl) (Lc := []) (nh := []) (noloopN (by kernel_rfl)) ?_
  rintro ⟨⟨⟨_, w, r, _⟩, _⟩, ⟨⟨c, got, _, held, _⟩, did, _⟩⟩
  refine (none_raw w r c got held did).trans ?_
  rfl
@[reducible] def edgeAtI : Ifc (VhL [pm, vi] × OShL mach) ((VhL [vi] × OShL mach) ⊕ (VhL [.agg []] × OShL machP)) where
  α := Int
  tr x := T.ret ((fun (i : Int) (c : Cfg) (got : List Int) (held : List Int) => ((w64 (w64 (c.ids + 1) + i)))) x.1.2.1 x.2.1.1 x.2.1.2.1 x.2.1.2.2.2.1)
  got x := x.2.1.2.1
  did x := x.2.2.1
  enc x a d := Sum.inl (((a, ()), ((x.2.1.1, x.2.1.2.1, (), x.2.1.2.2.2.1, ()), d, ())))
  stop x d := Sum.inr ((((), ()), ((x.2.1.1, x.2.1.2.1, (), (), ()), d, ())))
abbrev edgeAt_T : Type := VhL [pm, vi] × OShL mach → Option ((VhL [vi] × OShL mach) ⊕ (VhL [.agg []] × OShL machP))
noncomputable abbrev edgeAt_C (sp : edgeAt_T) : Con := cq [pm, vi] mach [vi] mach machP sp
theorem edgeAt_g : Callable Tryz.prog 81 := ⟨Tryz.f81, body Tryz.f81, by kernel_rfl, by kernel_rfl, by kernel_rfl⟩
theorem edgeAt_raw (i : Int) (c : Cfg) (got : List Int) (held : List Int) (did : List Acc) : runQ Tryz.f81 [pm, vi] mach [vi] mach machP [] [] [] ((((), i, ()), ((c, got, (), held, ()), did, ())) : VhL [pm, vi] × OShL mach) = (some (Sum.inl ((w64 (w64 (c.ids + 1) + i), ()), (c, got, (), held, ()), did, ()))) := by kernel_rfl
theorem edgeAt_ok : Sound Tryz.prog gl 81 (edgeAt_C (Ifc.spec edgeAtI)) := by
  refine cqk (fn := Tryz.f81) (G := []) (GOk.nil) (by kernel_rfl) (by kernel_rfl) (Lc := []) (nh := []) (noloopN (by kernel_rfl)) ?_
  rintro ⟨⟨_, i, _⟩, ⟨⟨c, got, _, held, _⟩, did, _⟩⟩
  refine (edgeAt_raw i c got held did).trans ?_
  rfl
def findTr (n : Int) (c : Cfg) (got : List Int) (held : List Int) : T (Int) :=
 (wordTr (w64 (n + 1)) c got held).bind fun x1 =>
 .ret x1
@[reducible] def findI : Ifc (VhL [pm, vi] × OShL mach) ((VhL [rc] × OShL mach) ⊕ (VhL [.agg []] × OShL machP)) where
  α := Int
  tr x := findTr x.1.2.1 x.2.1.1 x.2.1.2.1 x.2.1.2.2.2.1
  got x := x.2.1.2.1
  did x := x.2.2.1
  enc x a d := Sum.inl (((((), 1, a, ()), ()), ((x.2.1.1, x.2.1.2.1, (), x.2.1.2.2.2.1, ()), d, ())))
  stop x d := Sum.inr ((((), ()), ((x.2.1.1, x.2.1.2.1, (), (), ()), d, ())))
abbrev find_T : Type := VhL [pm, vi] × OShL mach → Option ((VhL [rc] × OShL mach) ⊕ (VhL [.agg []] × OShL machP))
noncomputable abbrev find_C (sp : find_T) : Con := cq [pm, vi] mach [rc] mach machP sp
theorem find_g : Callable Tryz.prog 79 := ⟨Tryz.f79, body Tryz.f79, by kernel_rfl, by kernel_rfl, by kernel_rfl⟩
theorem find_raw (sp_nodeAt : nodeAt_T) (sp_word : word_T) (sp_node : node_T) (n : Int) (c : Cfg) (got : List Int) (held : List Int) (did : List Acc) : runQ Tryz.f79 [pm, vi] mach [rc] mach machP [(77, nodeAt_C sp_nodeAt), (72, word_C sp_word), (113, node_C sp_node)] [] [] ((((), n, ()), ((c, got, (), held, ()), did, ())) : VhL [pm, vi] × OShL mach) = ((sp_nodeAt ((n, ()), ())).bind fun val => (sp_word (((), val.1.1, ()), (c, got, (), held, ()), did, ())).bind fun val => selim val (fun val => (sp_node (((), val.1.1, ()), (val.2.1.1, val.2.1.2.1, (), val.2.1.2.2.2.1, ()), val.2.2.1, ())).bind fun val => selim val (fun val => some (Sum.inl ((((), val.1.1.2.1, val.1.1.2.2.1, ()), ()), (val.2.1.1, val.2.1.2.1, (), val.2.1.2.2.2.1, ()), val.2.2.1, ()))) fun val => some (Sum.inr (((), ()), (val.2.1.1, val.2.1.2.1, (), (), ()), val.2.2.1, ()))) fun val => some (Sum.inr (((), ()), (val.2.1.1, val.2.1.2.1, (), (), ()), val.2.2.1, ()))) := by kernel_rfl
theorem find_ok : Sound Tryz.prog gl 79 (find_C (Ifc.spec findI)) := by
  refine cqk (fn := Tryz.f79) (G := [(77, nodeAt_C (Ifc.spec nodeAtI)), (72, word_C (Ifc.spec wordI)), (113, node_C (Ifc.spec nodeI))]) (GOk.cons nodeAt_g nodeAt_ok (GOk.cons word_g word_ok (GOk.cons node_g node_ok (GOk.nil)))) (by kernel_rfl) (by kernel_rfl) (Lc := []) (nh := []) (noloopN (by kernel_rfl)) ?_
  rintro ⟨⟨_, n, _⟩, ⟨⟨c, got, _, held, _⟩, did, _⟩⟩
  refine (find_raw (Ifc.spec nodeAtI) (Ifc.spec wordI) (Ifc.spec nodeI) n c got held did).trans ?_
  show _ = outG (findI.enc (((), n, ()), ((c, got, (), held, ()), did, ()))) (findI.stop (((), n, ()), ((c, got, (), held, ()), did, ()))) ((findTr n c got held).exec got did)
  unfold findTr
  repeat' (first | (refine (retI (by with_reducible rfl)).trans ?_; try dsimp only [selim, cond_true, cond_false, Bool.not_true, Bool.not_false, one, none1, mI, nodeAtI, wordI, nodeI]) | (refine bindI rfl rfl (fun _ _ => ?_) (fun _ => rfl); try dsimp only [selim, cond_true, cond_false, Bool.not_true, Bool.not_false, one, none1, mI, nodeAtI, wordI, nodeI]) | rfl)
@[reducible] def failedI : Ifc (VhL [vi] × OShL []) (VhL [.s (.e (.st .res))] × OShL []) where
  α := Res
  tr x := T.ret ((fun (e : Int) => ((Res.mk e 0 [] [] []))) x.1.1)
  got x := []
  did x := []
  enc x a d := ((a, ()), ())
  stop x d := ((⟨0, 0, [], [], []⟩, ()), ())
abbrev failed_T : Type := VhL [vi] × OShL [] → Option (VhL [.s (.e (.st .res))] × OShL [])
noncomputable abbrev failed_C (sp : failed_T) : Con := Con.of [vi] [] [.s (.e (.st .res))] [] sp
theorem failed_g : Callable Tryz.prog 51 := ⟨Tryz.f51, body Tryz.f51, by kernel_rfl, by kernel_rfl, by kernel_rfl⟩
theorem failed_raw (e : Int) : runN Tryz.f51 [vi] [] [.s (.e (.st .res))] [] [] [] [] (((e, ()), ()) : VhL [vi] × OShL []) = (some ((Res.mk e 0 [] [] [], ()), ())) := by kernel_rfl
theorem failed_ok : Sound Tryz.prog gl 51 (failed_C (Ifc.spec failedI)) := by
  refine cnk (fn := Tryz.f51) (G := []) (GOk.nil) (by kernel_rfl) (by kernel_rfl) (Lc := []) (nh := []) (noloopN (by kernel_rfl)) ?_
  rintro ⟨⟨e, _⟩, _⟩
  refine (failed_raw e).trans ?_
  rfl
def knownTr (l : List Int) (c : Cfg) (got : List Int) (held : List Int) : T (Bool) :=
 bif inR 0 l.length then
 bif inR (w64 (Int.ofNat l.length - 1)) l.length then
 bif decide (List.foldl min (rdE EK.int l 0) [rdE EK.int l (w64 (Int.ofNat l.length - 1))] ≥ 1) then
 bif inR 0 l.length then
 bif inR (w64 (Int.ofNat l.length - 1)) l.length then
 .ret (decide (List.foldl max (rdE EK.int l 0) [rdE EK.int l (w64 (Int.ofNat l.length - 1))] ≤ c.ids))
 else
 .bot
 else
 .bot
 else
 .ret false
 else
 .bot
 else
 .bot
@[reducible] def knownI : Ifc (VhL [pm, .s (.lent .int)] × OShL mach) ((VhL [vb] × OShL mach) ⊕ (VhL [.agg []] × OShL machP)) where
  α := Bool
  tr x := knownTr x.1.2.1 x.2.1.1 x.2.1.2.1 x.2.1.2.2.2.1
  got x := x.2.1.2.1
  did x := x.2.2.1
  enc x a d := Sum.inl (((a, ()), ((x.2.1.1, x.2.1.2.1, (), x.2.1.2.2.2.1, ()), d, ())))
  stop x d := Sum.inr ((((), ()), ((x.2.1.1, x.2.1.2.1, (), (), ()), d, ())))
abbrev known_T : Type := VhL [pm, .s (.lent .int)] × OShL mach → Option ((VhL [vb] × OShL mach) ⊕ (VhL [.agg []] × OShL machP))
noncomputable abbrev known_C (sp : known_T) : Con := cq [pm, .s (.lent .int)] mach [vb] mach machP sp
theorem known_g : Callable Tryz.prog 78 := ⟨Tryz.f78, body Tryz.f78, by kernel_rfl, by kernel_rfl, by kernel_rfl⟩
theorem known_raw (l : List Int) (c : Cfg) (got : List Int) (held : List Int) (did : List Acc) : runQ Tryz.f78 [pm, .s (.lent .int)] mach [vb] mach machP [] [] [] ((((), l, ()), ((c, got, (), held, ()), did, ())) : VhL [pm, .s (.lent .int)] × OShL mach) = (bif inR 0 l.length then bif inR (w64 (Int.ofNat l.length - 1)) l.length then bif decide (List.foldl min (rdE EK.int l 0) [rdE EK.int l (w64 (Int.ofNat l.length - 1))] ≥ 1) then bif inR 0 l.length then bif inR (w64 (Int.ofNat l.length - 1)) l.length then some (Sum.inl ((decide (List.foldl max (rdE EK.int l 0) [rdE EK.int l (w64 (Int.ofNat l.length - 1))] ≤ c.ids), ()), (c, got, (), held, ()), did, ())) else none else none else some (Sum.inl ((false, ()), (c, got, (), held, ()), did, ())) else none
else none) := by kernel_rfl
theorem known_ok : Sound Tryz.prog gl 78 (known_C (Ifc.spec knownI)) := by
  refine cqk (fn := Tryz.f78) (G := []) (GOk.nil) (by kernel_rfl) (by kernel_rfl) (Lc := []) (nh := []) (noloopN (by kernel_rfl)) ?_
  rintro ⟨⟨_, l, _⟩, ⟨⟨c, got, _, held, _⟩, did, _⟩⟩
  refine (known_raw l c got held did).trans ?_
  show _ = outG (knownI.enc (((), l, ()), ((c, got, (), held, ()), did, ()))) (knownI.stop (((), l, ()), ((c, got, (), held, ()), did, ()))) ((knownTr l c got held).exec got did)
  unfold knownTr
  repeat' (first | refine cond_out (fun _ => ?_) (fun _ => ?_) | rfl)
abbrev unlinkL0vs : List Vh := [.s (.ptr 2 0), .s (.ptr 3 0), .s (.ptr 4 0), vi]
abbrev unlinkL0os : List OSh := [.box [.e (.st .cfg), .e (.sl .int), .own 1, .sln .int], .arr (.st .acc), .box [.e (.st .sid)], .box [.ptr 0 0, .e .int, .e .int], .box [.ptr 0 0, .e .int, .e .int]]
noncomputable abbrev unlinkL0fin : Fin := ((Fin.one 2 Tryz.f84.ntmps (.exit 0) [] [] mach).or ((Fin.one 2 Tryz.f84.ntmps .ret [] [] mach).or (Fin.pan 2 59 (.agg []) machP)))
def unlinkL0Step (v3 : Int) (c : Cfg) (got : List Int) (held : List Int) (v9 : Sid) (v11 : Int) (v12 : Int) (v14 : Int) (st : Int) : T ((Int) ⊕ (Unit ⊕ Unit)) :=
 let v15 := st
 bif !v15 == 0 then
 (nextTr v14 v15 v9.link c got held).bind fun x1 =>
 bif x1 == v12 then
 (storeTr v14 v15 v9.link v3 c got held).bind fun _ =>
 .ret (Sum.inr (Sum.inr (())))
 else
 .ret (Sum.inl x1)
 else
 .ret (Sum.inr (Sum.inl (())))
@[reducible] def unlinkL0I : Ifc (VhL unlinkL0vs × OShL unlinkL0os) unlinkL0fin.Y where
  α := Unit ⊕ Unit
  tr x := T.loop (unlinkL0Step x.1.2.2.2.1 x.2.1.1 x.2.1.2.1 x.2.1.2.2.2.1 x.2.2.2.1.1 x.2.2.2.2.1.2.1 x.2.2.2.2.1.2.2.1 x.2.2.2.2.2.1.2.1) (x.2.1.2.1.length + 10) x.2.2.2.2.2.1.2.2.1
  got x := x.2.1.2.1
  did x := x.2.2.1
  enc x a d := match a with | Sum.inl (b) => Sum.inl (((), ((x.2.1.1, x.2.1.2.1, (), x.2.1.2.2.2.1, ()), d, ()))) | Sum.inr (b) => Sum.inr (Sum.inl (((), ((x.2.1.1, x.2.1.2.1, (), x.2.1.2.2.2.1, ()), d, ()))))
  stop x d := Sum.inr (Sum.inr ((((), ()), ((x.2.1.1, x.2.1.2.1, (), (), ()), d, ()))))
theorem unlinkL0_raw (sp_load : load_T) (sp_store : store_T) (sp_next : next_T) (sp_edge : edge_T) (sp_none : none_T) (sp_find : find_T) (v3 : Int) (c : Cfg) (got : List Int) (held : List Int) (did : List Acc) (v9 : Sid) (v11 : Int) (v12 : Int) (v14 : Int) (v15 : Int) : runW 2 Tryz.f84 0 [5, 7, 9, 10] unlinkL0vs unlinkL0os unlinkL0fin [(80, load_C sp_load), (75, store_C sp_store), (103, next_C sp_next), (82, edge_C sp_edge), (74, none_C sp_none), (79, find_C sp_find)] [] [] ((((), (), (), v3, ()), ((c, got, (), held, ()), did, (v9, ()), ((), v11, v12, ()), ((), v14, v15, ()), ())) : VhL unlinkL0vs × OShL unlinkL0os) = ((sp_none ((((), v14, v15, ()), ()), (c, got, (), held, ()), did, ())).bind fun val => selim val (fun val => bif !val.1.1 then (sp_next ((((), v14, v15, ()), v9.link, ()), (val.2.1.1, val.2.1.2.1, (), val.2.1.2.2.2.1, ()), val.2.2.1, ())).bind fun val => selim val (fun val => bif val.1.1.2.2.1 == v12 then (sp_store ((((), v14, v15, ()), v9.link, v3, ()), (val.2.1.1, val.2.1.2.1, (), val.2.1.2.2.2.1, ()), val.2.2.1, ())).bind fun val => selim val (fun val => some (Sum.inr (Sum.inr (Sum.inl ((), (val.2.1.1, val.2.1.2.1, (), val.2.1.2.2.2.1, ()), val.2.2.1, ()))))) fun val => some (Sum.inr (Sum.inr (Sum.inr (((), ()), (val.2.1.1, val.2.1.2.1, (), (), ()), val.2.2.1, ())))) else some (Sum.inl (((), (), (), v3, ()), (val.2.1.1, val.2.1.2.1, (), val.2.1.2.2.2.1, ()), val.2.2.1, (v9, ()), ((), v11, v12, ()), ((), val.1.1.2.1, val.1.1.2.2.1, ()), ()))) fun val => some (Sum.inr (Sum.inr (Sum.inr (((), ()), (val.2.1.1, val.2.1.2.1, (), (), ()), val.2.2.1, ())))) else some (Sum.inr (Sum.inl ((), (val.2.1.1, val.2.1.2.1, (), val.2.1.2.2.2.1, ()), val.2.2.1, ())))) fun val => some (Sum.inr (Sum.inr (Sum.inr (((), ()), (val.2.1.1, val.2.1.2.1, (), (), ()), val.2.2.1, ()))))) := by kernel_rfl
theorem unlinkL0_ok : LOk Tryz.prog gl 2 (LCon.of Tryz.f84.ntmps [5, 7, 9, 10] unlinkL0vs unlinkL0os unlinkL0fin (Ifc.spec unlinkL0I)) (getL (body Tryz.f84) 0) := by
  refine lwk (Lc := []) (nh := []) (G := [(80, load_C (Ifc.spec loadI)), (75, store_C (Ifc.spec storeI)), (103, next_C (Ifc.spec nextI)), (82, edge_C (Ifc.spec edgeI)), (74, none_C (Ifc.spec noneI)), (79, find_C (Ifc.spec findI))]) (GOk.cons load_g load_ok (GOk.cons store_g store_ok (GOk.cons next_g next_ok (GOk.cons edge_g edge_ok (GOk.cons none_g none_ok (GOk.cons find_g find_ok (GOk.nil))))))) (noloopN (by kernel_rfl)) (Fin.or_ok (Fin.one_ok _ _ _ _) (Fin.or_ok (Fin.one_ok _ _ _ _) (Fin.pan_ok _ _ _))) ?_
  rintro ⟨⟨_, _, _, v3, _⟩, ⟨⟨c, got, _, held, _⟩, did, ⟨v9, _⟩, ⟨_, v11, v12, _⟩, ⟨_, v14, v15, _⟩, _⟩⟩ y hy
  refine ⟨_, loopT_ok (eX := fun (st : Int) (d : List Acc) => (let v15 := st; (((), (), (), v3, ()), ((c, got, (), held, ()), d, (v9, ()), ((), v11, v12, ()), ((), v14, v15, ()), ())) : VhL unlinkL0vs × OShL unlinkL0os)) (body := unlinkL0Step v3 c got held v9 v11 v12 v14) (fun st d => ?_) _ v15 did y hy⟩
  revert st
  intro v15
  refine (unlinkL0_raw (Ifc.spec loadI) (Ifc.spec storeI) (Ifc.spec nextI) (Ifc.spec edgeI) (Ifc.spec noneI) (Ifc.spec findI) v3 c got held d v9 v11 v12 v14 v15).trans ?_
  unfold unlinkL0Step
  repeat' (first | refine cond_out (fun _ => ?_) (fun _ => ?_) | (refine (retI (by with_reducible rfl)).trans ?_; try dsimp only [selim, cond_true, cond_false, Bool.not_true, Bool.not_false, one, none1, mI, loadI, storeI, nextI, edgeI, noneI, findI]) | (refine bindI rfl rfl (fun _ _ => ?_) (fun _ => rfl); try dsimp only [selim, cond_true, cond_false, Bool.not_true, Bool.not_false, one, none1, mI, loadI, storeI, nextI, edgeI, noneI, findI]) | rfl)
def unlinkTr (s : Sid) (n : Int) (w : Int) (r : Int) (c : Cfg) (got : List Int) (held : List Int) : T (Unit) :=
 (findTr n c got held).bind fun x0 =>
 (loadTr 1 x0 s.head c got held).bind fun x1 =>
 (loadTr w r s.link c got held).bind fun x3 =>
 bif x1 == r then
 (storeTr 1 x0 s.head x3 c got held).bind fun _ =>
 .ret ()
 else
 (T.loop (unlinkL0Step x3 c got held s w r 2) (got.length + 10) x1).bind fun b4 => selim b4
 (fun x4 => .ret ())
 (fun y4 => .ret ())
@[reducible] def unlinkI : Ifc (VhL [pm, .s (.e (.st .sid)), vi, rc] × OShL mach) ((VhL [] × OShL mach) ⊕ (VhL [.agg []] × OShL machP)) where
  α := Unit
  tr x := unlinkTr x.1.2.1 x.1.2.2.1 x.1.2.2.2.1.2.1 x.1.2.2.2.1.2.2.1 x.2.1.1 x.2.1.2.1 x.2.1.2.2.2.1
  got x := x.2.1.2.1
  did x := x.2.2.1
  enc x a d := Sum.inl (((), ((x.2.1.1, x.2.1.2.1, (), x.2.1.2.2.2.1, ()), d, ())))
  stop x d := Sum.inr ((((), ()), ((x.2.1.1, x.2.1.2.1, (), (), ()), d, ())))
abbrev unlink_T : Type := VhL [pm, .s (.e (.st .sid)), vi, rc] × OShL mach → Option ((VhL [] × OShL mach) ⊕ (VhL [.agg []] × OShL machP))
noncomputable abbrev unlink_C (sp : unlink_T) : Con := cq [pm, .s (.e (.st .sid)), vi, rc] mach [] mach machP sp
theorem unlink_g : Callable Tryz.prog 84 := ⟨Tryz.f84, body Tryz.f84, by kernel_rfl, by kernel_rfl, by kernel_rfl⟩
theorem unlink_raw (sp_load : load_T) (sp_store : store_T) (sp_next : next_T) (sp_edge : edge_T) (sp_none : none_T) (sp_find : find_T) (sp_unlinkL0 : VhL unlinkL0vs × OShL unlinkL0os → Option unlinkL0fin.Y) (s : Sid) (n : Int) (w : Int) (r : Int) (c : Cfg) (got : List Int) (held : List Int) (did : List Acc) : runQ Tryz.f84 [pm, .s (.e (.st .sid)), vi, rc] mach [] mach machP [(80, load_C sp_load), (75, store_C sp_store), (103, next_C sp_next), (82, edge_C sp_edge), (74, none_C sp_none), (79, find_C sp_find)] [(6, LCon.of Tryz.f84.ntmps [5, 7, 9, 10] unlinkL0vs unlinkL0os unlinkL0fin sp_unlinkL0)] [] ((((), s, n, ((), w, r, ()), ()), ((c, got, (), held, ()), did, ())) : VhL [pm, .s (.e (.st .sid)), vi, rc] × OShL mach) = ((sp_find (((), n, ()), (c, got, (), held, ()), did, ())).bind fun val => selim val (fun val => (sp_load ((((), val.1.1.2.1, val.1.1.2.2.1, ()), s.head, ()), (val.2.1.1, val.2.1.2.1, (), val.2.1.2.2.2.1, ()), val.2.2.1, ())).bind fun val_1 => selim val_1 (fun val_2 => (sp_edge (((), val_2.1.1, ()), (val_2.2.1.1, val_2.2.1.2.1, (), val_2.2.1.2.2.2.1, ()), val_2.2.2.1, ())).bind fun val_3 => selim val_3 (fun val_4 => (sp_load ((((), w, r, ()), s.link, ()), (val_4.2.1.1, val_4.2.1.2.1, (), val_4.2.1.2.2.2.1, ()), val_4.2.2.1, ())).bind fun val_5 => selim val_5 (fun val_6 => bif val_4.1.1.2.2.1 == r then (sp_store ((((), val.1.1.2.1, val.1.1.2.2.1, ()), s.head, val_6.1.1, ()), (val_6.2.1.1, val_6.2.1.2.1, (), val_6.2.1.2.2.2.1, ()), val_6.2.2.1, ())).bind fun val => selim val (fun val => some (Sum.inl ((), (val.2.1.1, val.2.1.2.1, (), val.2.1.2.2.2.1, ()), val.2.2.1, ()))) fun val => some (Sum.inr (((), ()), (val.2.1.1, val.2.1.2.1, (), (), ()), val.2.2.1, ())) else (sp_unlinkL0 (((), (), (), val_6.1.1, ()), (val_6.2.1.1, val_6.2.1.2.1, (), val_6.2.1.2.2.2.1, ()), val_6.2.2.1, (s, ()), ((), w, r, ()), ((), val_4.1.1.2.1, val_4.1.1.2.2.1, ()), ())).bind fun val => selim val (fun val => some (Sum.inl ((), (val.2.1.1, val.2.1.2.1, (), val.2.1.2.2.2.1, ()), val.2.2.1, ()))) fun val => selim val (fun val => some (Sum.inl ((), (val.2.1.1, val.2.1.2.1, (), val.2.1.2.2.2.1, ()), val.2.2.1, ()))) fun val => some (Sum.inr (((), ()), (val.2.1.1, val.2.1.2.1, (), (), ()), val.2.2.1, ()))) fun val => some (Sum.inr (((), ()), (val.2.1.1, val.2.1.2.1, (), (), ()), val.2.2.1, ()))) fun val => some (Sum.inr (((), ()), (val.2.1.1, val.2.1.2.1, (), (), ()), val.2.2.1, ()))) fun val => some (Sum.inr (((), ()), (val.2.1.1, val.2.1.2.1, (), (), ()), val.2.2.1, ()))) fun val => some (Sum.inr (((), ()), (val.2.1.1, val.2.1.2.1, (), (), ()), val.2.2.1, ()))) := by kernel_rfl
theorem unlink_ok : Sound Tryz.prog gl 84 (unlink_C (Ifc.spec unlinkI)) := by
  refine cqk (fn := Tryz.f84) (G := [(80, load_C (Ifc.spec loadI)), (75, store_C (Ifc.spec storeI)), (103, next_C (Ifc.spec nextI)), (82, edge_C (Ifc.spec edgeI)), (74, none_C (Ifc.spec noneI)), (79, find_C (Ifc.spec findI))]) (GOk.cons load_g load_ok (GOk.cons store_g store_ok (GOk.cons next_g next_ok (GOk.cons edge_g edge_ok (GOk.cons none_g none_ok (GOk.cons find_g find_ok (GOk.nil))))))) (by kernel_rfl) (by kernel_rfl) (Lc := [(6, LCon.of Tryz.f84.ntmps [5, 7, 9, 10] unlinkL0vs unlinkL0os unlinkL0fin (Ifc.spec unlinkL0I))]) (nh := []) (lcok (bs := [getL (body Tryz.f84) 0]) (by kernel_rfl) ⟨lone_ok (q := (6, LCon.of Tryz.f84.ntmps [5, 7, 9, 10] unlinkL0vs unlinkL0os unlinkL0fin (Ifc.spec unlinkL0I))) (by kernel_rfl) unlinkL0_ok, trivial⟩) ?_
  rintro ⟨⟨_, s, n, ⟨_, w, r, _⟩, _⟩, ⟨⟨c, got, _, held, _⟩, did, _⟩⟩
  refine (unlink_raw (Ifc.spec loadI) (Ifc.spec storeI) (Ifc.spec nextI) (Ifc.spec edgeI) (Ifc.spec noneI) (Ifc.spec findI) (Ifc.spec unlinkL0I) s n w r c got held did).trans ?_
  show _ = outG (unlinkI.enc (((), s, n, ((), w, r, ()), ()), ((c, got, (), held, ()), did, ()))) (unlinkI.stop (((), s, n, ((), w, r, ()), ()), ((c, got, (), held, ()), did, ()))) ((unlinkTr s n w r c got held).exec got did)
  unfold unlinkTr
  refine bindI rfl rfl (fun x0 d0 => ?_) (fun d => rfl)
  dsimp only [selim, cond_true, cond_false, Bool.not_true, Bool.not_false, one, none1, mI, loadI, storeI, nextI, edgeI, noneI, findI, unlinkL0I]
  refine bindI rfl rfl (fun x1 d1 => ?_) (fun d => rfl)
  dsimp only [selim, cond_true, cond_false, Bool.not_true, Bool.not_false, one, none1, mI, loadI, storeI, nextI, edgeI, noneI, findI, unlinkL0I]
  refine (retI rfl).trans ?_
  dsimp only [selim, cond_true, cond_false, Bool.not_true, Bool.not_false, one, none1, mI, loadI, storeI, nextI, edgeI, noneI, findI, unlinkL0I]
  refine bindI rfl rfl (fun x3 d3 => ?_) (fun d => rfl)
  dsimp only [selim, cond_true, cond_false, Bool.not_true, Bool.not_false, one, none1, mI, loadI, storeI, nextI, edgeI, noneI, findI, unlinkL0I]
  refine cond_out (fun _ => ?_) (fun _ => ?_)
  · refine bindI rfl rfl (fun x4 d4 => ?_) (fun d => rfl)
    dsimp only [selim, cond_true, cond_false, Bool.not_true, Bool.not_false, one, none1, mI, loadI, storeI, nextI, edgeI, noneI, findI, unlinkL0I]
    rfl
  · refine bindI rfl rfl (fun b4 d4 => ?_) (fun d => rfl)
    rcases b4 with x4 | y4
    · dsimp only [selim, cond_true, cond_false, Bool.not_true, Bool.not_false, one, none1, mI, loadI, storeI, nextI, edgeI, noneI, findI, unlinkL0I]
      try (first | refine (cond_t rfl).trans ?_ | refine (cond_f rfl).trans ?_)
      rfl
    · dsimp only [selim, cond_true, cond_false, Bool.not_true, Bool.not_false, one, none1, mI, loadI, storeI, nextI, edgeI, noneI, findI, unlinkL0I]
      try (first | refine (cond_t rfl).trans ?_ | refine (cond_f rfl).trans ?_)
      rfl
end Go.Ax.Cd
