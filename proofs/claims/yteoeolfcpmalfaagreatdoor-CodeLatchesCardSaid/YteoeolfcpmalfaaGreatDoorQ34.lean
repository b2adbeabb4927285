/- The package code by contracts (printed by wip/tools/con3.py). -/
import Derived.Test.YteoeolfcpmalfaaGreatDoorQ33
import Derived.Test.YteoeolfcpmalfaaGreatDoorQ13
import Derived.Test.YteoeolfcpmalfaaGreatDoorQ32
namespace Go.Ax.Cd
open Go.Proofs
set_option linter.unusedVariables false
set_option maxRecDepth 100000
@[reducible] def plainFI : PIf (VhL [] × OShL []) (VhL [.s (.e (.st .cfg))] × OShL []) where
  α := Cfg
  tr x := T.ret ((Cfg.mk 2 2 2 2 2))
  enc x a := ((a, ()), ())
abbrev plainF_T : Type := VhL [] × OShL [] → Option (VhL [.s (.e (.st .cfg))] × OShL [])
noncomputable abbrev plainF_C (sp : plainF_T) : Con := Con.of [] [] [.s (.e (.st .cfg))] [] sp
theorem plainF_g : Callable Tryz.prog 20 := ⟨Tryz.f20, body Tryz.f20, by kernel_rfl, by kernel_rfl, by kernel_rfl⟩
theorem plainF_raw : runN Tryz.f20 [] [] [.s (.e (.st .cfg))] [] [] [] [] (((), ()) : VhL [] × OShL []) = (some ((Cfg.mk 2 2 2 2 2, ()), ())) := by kernel_rfl
theorem plainF_ok : Sound Tryz.prog gl 20 (plainF_C (PIf.spec plainFI)) := by
  refine cnk (fn := Tryz.f20) (G := []) (GOk.nil) (by kernel_rfl) (by kernel_rfl) (Lc := []) (nh := []) (noloopN (by kernel_rfl)) ?_
  rintro ⟨_, _⟩
  refine (plainF_raw ).trans ?_
  rfl
def knownFTr (n : Int) (most : Int) : T (Bool) :=
 bif decide (n ≥ 1) then
 .ret (decide (n ≤ most))
 else
 .ret false
@[reducible] def knownFI : PIf (VhL [vi, vi] × OShL []) (VhL [vb] × OShL []) where
  α := Bool
  tr x := knownFTr x.1.1 x.1.2.1
  enc x a := ((a, ()), ())
abbrev knownF_T : Type := VhL [vi, vi] × OShL [] → Option (VhL [vb] × OShL [])
noncomputable abbrev knownF_C (sp : knownF_T) : Con := Con.of [vi, vi] [] [vb] [] sp
theorem knownF_g : Callable Tryz.prog 18 := ⟨Tryz.f18, body Tryz.f18, by kernel_rfl, by kernel_rfl, by kernel_rfl⟩
theorem knownF_raw (n : Int) (most : Int) : runN Tryz.f18 [vi, vi] [] [vb] [] [] [] [] (((n, most, ()), ()) : VhL [vi, vi] × OShL []) = (bif decide (n ≥ 1) then some ((decide (n ≤ most), ()), ()) else some ((false, ()), ())) := by kernel_rfl
theorem knownF_ok : Sound Tryz.prog gl 18 (knownF_C (PIf.spec knownFI)) := by
  refine cnk (fn := Tryz.f18) (G := []) (GOk.nil) (by kernel_rfl) (by kernel_rfl) (Lc := []) (nh := []) (noloopN (by kernel_rfl)) ?_
  rintro ⟨⟨n, most, _⟩, _⟩
  refine (knownF_raw n most).trans ?_
  show _ = ((knownFTr n most).val).map (knownFI.enc ((n, most, ()), ()))
  unfold knownFTr
  repeat' (first | refine cond_outP (fun _ => ?_) (fun _ => ?_) | rfl)
def mayFTr (c : Cfg) (got : List Int) : T (Bool) :=
 bif decide (c.ids ≥ 1) then
 bif decide (c.ids ≤ 64) then
 bif decide (c.edgeIds ≥ 1) then
 bif decide (c.edgeIds ≤ 64) then
 bif decide (c.nodes ≥ 1) then
 bif decide (c.nodes ≤ 64) then
 bif decide (c.edges ≥ 1) then
 bif decide (c.edges ≤ 64) then
 bif decide (c.props ≥ 1) then
 bif decide (c.props ≤ 64) then
 .ret (decide (Int.ofNat got.length ≤ 200))
 else
 .ret false
 else
 .ret false
 else
 .ret false
 else
 .ret false
 else
 .ret false
 else
 .ret false
 else
 .ret false
 else
 .ret false
 else
 .ret false
 else
 .ret false
@[reducible] def mayFI : PIf (VhL [.s (.e (.st .cfg)), .s (.e (.sl .int))] × OShL []) (VhL [vb] × OShL []) where
  α := Bool
  tr x := mayFTr x.1.1 x.1.2.1
  enc x a := ((a, ()), ())
abbrev mayF_T : Type := VhL [.s (.e (.st .cfg)), .s (.e (.sl .int))] × OShL [] → Option (VhL [vb] × OShL [])
noncomputable abbrev mayF_C (sp : mayF_T) : Con := Con.of [.s (.e (.st .cfg)), .s (.e (.sl .int))] [] [vb] [] sp
theorem mayF_g : Callable Tryz.prog 11 := ⟨Tryz.f11, body Tryz.f11, by kernel_rfl, by kernel_rfl, by kernel_rfl⟩
theorem mayF_raw (c : Cfg) (got : List Int) : runN Tryz.f11 [.s (.e (.st .cfg)), .s (.e (.sl .int))] [] [vb] [] [] [] [] (((c, got, ()), ()) : VhL [.s (.e (.st .cfg)), .s (.e (.sl .int))] × OShL []) = (bif decide (c.ids ≥ 1) then bif decide (c.ids ≤ 64) then bif decide (c.edgeIds ≥ 1) then bif decide (c.edgeIds ≤ 64) then bif decide (c.nodes ≥ 1) then bif decide (c.nodes ≤ 64) then bif decide (c.edges ≥ 1) then bif decide (c.edges ≤ 64) then bif decide (c.props ≥ 1) then bif decide (c.props ≤ 64) then some ((decide (Int.ofNat got.length ≤ 200), ()), ()) else some ((false, ()), ()) else some ((false, ()), ()) else some ((false, ()), ()) else some ((false, ()), ()) else some ((false, ()), ()) else some ((false, ()), ()) else some ((false, ()), ()) else some ((false, ()), ()) else some ((false, ()), ())
else some ((false, ()), ())) := by kernel_rfl
theorem mayF_ok : Sound Tryz.prog gl 11 (mayF_C (PIf.spec mayFI)) := by
  refine cnk (fn := Tryz.f11) (G := []) (GOk.nil) (by kernel_rfl) (by kernel_rfl) (Lc := []) (nh := []) (noloopN (by kernel_rfl)) ?_
  rintro ⟨⟨c, got, _⟩, _⟩
  refine (mayF_raw c got).trans ?_
  show _ = ((mayFTr c got).val).map (mayFI.enc ((c, got, ()), ()))
  unfold mayFTr
  repeat' (first | refine cond_outP (fun _ => ?_) (fun _ => ?_) | rfl)
def liveFTr : T (Bool) :=
 (next_Tr (Cfg.mk 2 2 2 2 2) (Opn.mk 1 0 0 0 0) []).bind fun x1 =>
 (next_Tr (Cfg.mk 2 2 2 2 2) (Opn.mk 1 0 0 0 0) [0]).bind fun x3 =>
 (next_Tr (Cfg.mk 2 2 2 2 2) (Opn.mk 0 0 0 0 0) [0, 0]).bind fun x5 =>
 bif x1.1.kind == 1 && (x1.1.at_ == 0 && (x1.1.which == 0 && (x1.1.ref == 0 && (x1.1.field == 0 && (x1.1.value == 0 && true))))) then
 bif !x1.2.2 then
 bif x3.1.kind == 5 && (x3.1.at_ == 0 && (x3.1.which == 0 && (x3.1.ref == 0 && (x3.1.field == 0 && (x3.1.value == 0 && true))))) then
 bif !x3.2.2 then
 bif x5.2.2 then
 .ret (x5.2.1.err == 1)
 else
 .ret false
 else
 .ret false
 else
 .ret false
 else
 .ret false
 else
 .ret false
@[reducible] def liveFI : PIf (VhL [] × OShL []) (VhL [vb] × OShL []) where
  α := Bool
  tr x := liveFTr 
  enc x a := ((a, ()), ())
abbrev liveF_T : Type := VhL [] × OShL [] → Option (VhL [vb] × OShL [])
noncomputable abbrev liveF_C (sp : liveF_T) : Con := Con.of [] [] [vb] [] sp
theorem liveF_g : Callable Tryz.prog 10 := ⟨Tryz.f10, body Tryz.f10, by kernel_rfl, by kernel_rfl, by kernel_rfl⟩
theorem liveF_raw (sp_next_ : next__T) (sp_plainF : plainF_T) : runN Tryz.f10 [] [] [vb] [] [(12, next__C sp_next_), (20, plainF_C sp_plainF)] [] [] (((), ()) : VhL [] × OShL []) = ((sp_plainF ((), ())).bind fun val => (sp_next_ ((val.1.1, Opn.mk 1 0 0 0 0, [], ()), ())).bind fun val => (sp_plainF ((), ())).bind fun val_1 => (sp_next_ ((val_1.1.1, Opn.mk 1 0 0 0 0, [0], ()), ())).bind fun val_2 => (sp_plainF ((), ())).bind fun val_3 => (sp_next_ ((val_3.1.1, Opn.mk 0 0 0 0 0, [0, 0], ()), ())).bind fun val_4 => bif val.1.1.kind == 1 && (val.1.1.at_ == 0 && (val.1.1.which == 0 && (val.1.1.ref == 0 && (val.1.1.field == 0 && (val.1.1.value == 0 && true))))) then bif !val.1.2.2.1 then bif val_2.1.1.kind == 5 && (val_2.1.1.at_ == 0 && (val_2.1.1.which == 0 && (val_2.1.1.ref == 0 && (val_2.1.1.field == 0 && (val_2.1.1.value == 0 && true))))) then bif !val_2.1.2.2.1 then bif val_4.1.2.2.1 then some ((val_4.1.2.1.err == 1, ()), ()) else some ((false, ()), ()) else some ((false, ()), ()) else some ((false, ()), ()) else some ((false, ()), ()) else some ((false, ()), ())) := by kernel_rfl
theorem liveF_ok : Sound Tryz.prog gl 10 (liveF_C (PIf.spec liveFI)) := by
  refine cnk (fn := Tryz.f10) (G := [(12, next__C (PIf.spec next_I)), (20, plainF_C (PIf.spec plainFI))]) (GOk.cons next__g next__ok (GOk.cons plainF_g plainF_ok (GOk.nil))) (by kernel_rfl) (by kernel_rfl) (Lc := []) (nh := []) (noloopN (by kernel_rfl)) ?_
  rintro ⟨_, _⟩
  refine (liveF_raw (PIf.spec next_I) (PIf.spec plainFI)).trans ?_
  show _ = ((liveFTr ).val).map (liveFI.enc ((), ()))
  unfold liveFTr
  repeat' (first | refine cond_outP (fun _ => ?_) (fun _ => ?_) | (refine (retP (by with_reducible rfl)).trans ?_; try dsimp only [selim, cond_true, cond_false, Bool.not_true, Bool.not_false, one, none1, mI, next_I, plainFI]) | (refine bindP (fun _ => ?_); try dsimp only [selim, cond_true, cond_false, Bool.not_true, Bool.not_false, one, none1, mI, next_I, plainFI]) | rfl)
abbrev samePrL0vs : List Vh := [.s (.e (.sl (.st .pr))), .s (.e (.sl (.st .pr))), vi, vi]
abbrev samePrL0os : List OSh := []
noncomputable abbrev samePrL0fin : Fin := ((Fin.one 0 Tryz.f23.ntmps (.exit 0) [] [] []).or (Fin.one 0 Tryz.f23.ntmps .ret [4] [vb] []))
def samePrL0Step (v0 : List Pr) (v1 : List Pr) (v2 : Int) (st : Int) : T ((Int) ⊕ (Unit ⊕ Unit)) :=
 let v3 := st
 bif decide (v3 < v2) then
 bif inR v3 v0.length then
 bif inR v3 v1.length then
 bif !((rdE (EK.st SN.pr) v0 v3).k == (rdE (EK.st SN.pr) v1 v3).k && ((rdE (EK.st SN.pr) v0 v3).v == (rdE (EK.st SN.pr) v1 v3).v && true)) then
 .ret (Sum.inr (Sum.inr (())))
 else
 .ret (Sum.inl (w64 (v3 + 1)))
 else
 .bot
 else
 .bot
 else
 .ret (Sum.inr (Sum.inl (())))
@[reducible] def samePrL0I : PIf (VhL samePrL0vs × OShL samePrL0os) samePrL0fin.Y where
  α := Unit ⊕ Unit
  tr x := T.loop (samePrL0Step x.1.1 x.1.2.1 x.1.2.2.1) FU x.1.2.2.2.1
  enc x a := match a with | Sum.inl (b) => Sum.inl (((), ())) | Sum.inr (b) => Sum.inr (((false, ()), ()))
theorem samePrL0_raw (v0 : List Pr) (v1 : List Pr) (v2 : Int) (v3 : Int) : runW 0 Tryz.f23 0 [0, 1, 12, 13] samePrL0vs samePrL0os samePrL0fin [] [] [] (((v0, v1, v2, v3, ()), ()) : VhL samePrL0vs × OShL samePrL0os) = (bif decide (v3 < v2) then bif inR v3 v0.length then bif inR v3 v1.length then bif !((rdE (EK.st SN.pr) v0 v3).k == (rdE (EK.st SN.pr) v1 v3).k && ((rdE (EK.st SN.pr) v0 v3).v == (rdE (EK.st SN.pr) v1 v3).v && true)) then some (Sum.inr (Sum.inr ((false, ()), ()))) else some (Sum.inl ((v0, v1, v2, w64 (v3 + 1), ()), ())) else none else none
else some (Sum.inr (Sum.inl ((), ())))) := by kernel_rfl
theorem samePrL0_ok : LOk Tryz.prog gl 0 (LCon.of Tryz.f23.ntmps [0, 1, 12, 13] samePrL0vs samePrL0os samePrL0fin (PIf.spec samePrL0I)) (getL (body Tryz.f23) 0) := by
  refine lwk (Lc := []) (nh := []) (G := []) (GOk.nil) (noloopN (by kernel_rfl)) (Fin.or_ok (Fin.one_ok _ _ _ _) (Fin.one_ok _ _ _ _)) ?_
  rintro ⟨⟨v0, v1, v2, v3, _⟩, _⟩ y hy
  refine ⟨_, loopP_ok (eX := fun (st : Int) => (let v3 := st; ((v0, v1, v2, v3, ()), ()) : VhL samePrL0vs × OShL samePrL0os)) (body := samePrL0Step v0 v1 v2) (fun st => ?_) _ v3 y hy⟩
  revert st
  intro v3
  refine (samePrL0_raw v0 v1 v2 v3).trans ?_
  unfold samePrL0Step
  repeat' (first | refine cond_outP (fun _ => ?_) (fun _ => ?_) | rfl)
def samePrTr (a : List Pr) (b : List Pr) : T (Bool) :=
 bif Int.ofNat a.length != Int.ofNat b.length then
 .ret false
 else
 (T.loop (samePrL0Step a b (Int.ofNat a.length)) 4611686018427387904 0).bind fun b0 => selim b0
 (fun x0 => .ret true)
 (fun y0 => .ret false)
@[reducible] def samePrI : PIf (VhL [.s (.e (.sl (.st .pr))), .s (.e (.sl (.st .pr)))] × OShL []) (VhL [vb] × OShL []) where
  α := Bool
  tr x := samePrTr x.1.1 x.1.2.1
  enc x a := ((a, ()), ())
abbrev samePr_T : Type := VhL [.s (.e (.sl (.st .pr))), .s (.e (.sl (.st .pr)))] × OShL [] → Option (VhL [vb] × OShL [])
noncomputable abbrev samePr_C (sp : samePr_T) : Con := Con.of [.s (.e (.sl (.st .pr))), .s (.e (.sl (.st .pr)))] [] [vb] [] sp
theorem samePr_g : Callable Tryz.prog 23 := ⟨Tryz.f23, body Tryz.f23, by kernel_rfl, by kernel_rfl, by kernel_rfl⟩
theorem samePr_raw (sp_samePrL0 : VhL samePrL0vs × OShL samePrL0os → Option samePrL0fin.Y) (a : List Pr) (b : List Pr) : runN Tryz.f23 [.s (.e (.sl (.st .pr))), .s (.e (.sl (.st .pr)))] [] [vb] [] [] [(4, LCon.of Tryz.f23.ntmps [0, 1, 12, 13] samePrL0vs samePrL0os samePrL0fin sp_samePrL0)] [] (((a, b, ()), ()) : VhL [.s (.e (.sl (.st .pr))), .s (.e (.sl (.st .pr)))] × OShL []) = (bif Int.ofNat a.length != Int.ofNat b.length then some ((false, ()), ()) else (sp_samePrL0 ((a, b, Int.ofNat a.length, 0, ()), ())).bind fun val => selim val (fun val => some ((true, ()), ())) fun val => some ((val.1.1, ()), ())) := by kernel_rfl
theorem samePr_ok : Sound Tryz.prog gl 23 (samePr_C (PIf.spec samePrI)) := by
  refine cnk (fn := Tryz.f23) (G := []) (GOk.nil) (by kernel_rfl) (by kernel_rfl) (Lc := [(4, LCon.of Tryz.f23.ntmps [0, 1, 12, 13] samePrL0vs samePrL0os samePrL0fin (PIf.spec samePrL0I))]) (nh := []) (lcok (bs := [getL (body Tryz.f23) 0]) (by kernel_rfl) ⟨lone_ok (q := (4, LCon.of Tryz.f23.ntmps [0, 1, 12, 13] samePrL0vs samePrL0os samePrL0fin (PIf.spec samePrL0I))) (by kernel_rfl) samePrL0_ok, trivial⟩) ?_
  rintro ⟨⟨a, b, _⟩, _⟩
  refine (samePr_raw (PIf.spec samePrL0I) a b).trans ?_
  show _ = ((samePrTr a b).val).map (samePrI.enc ((a, b, ()), ()))
  unfold samePrTr
  refine cond_outP (fun _ => ?_) (fun _ => ?_)
  · rfl
  · refine bindP (fun b0 => ?_)
    rcases b0 with x0 | y0
    · dsimp only [selim, cond_true, cond_false, Bool.not_true, Bool.not_false, one, none1, mI, samePrL0I]
      try (first | refine (cond_t rfl).trans ?_ | refine (cond_f rfl).trans ?_)
      rfl
    · dsimp only [selim, cond_true, cond_false, Bool.not_true, Bool.not_false, one, none1, mI, samePrL0I]
      try (first | refine (cond_t rfl).trans ?_ | refine (cond_f rfl).trans ?_)
      rfl
abbrev sameEnL0vs : List Vh := [.s (.e (.sl (.st .en))), .s (.e (.sl (.st .en))), vi, vi]
abbrev sameEnL0os : List OSh := []
noncomputable abbrev sameEnL0fin : Fin := ((Fin.one 0 Tryz.f24.ntmps (.exit 0) [] [] []).or (Fin.one 0 Tryz.f24.ntmps .ret [4] [vb] []))
def sameEnL0Step (v0 : List En) (v1 : List En) (v2 : Int) (st : Int) : T ((Int) ⊕ (Unit ⊕ Unit)) :=
 let v3 := st
 bif decide (v3 < v2) then
 bif inR v3 v0.length then
 bif inR v3 v1.length then
 bif !((rdE (EK.st SN.en) v0 v3).edge == (rdE (EK.st SN.en) v1 v3).edge && ((rdE (EK.st SN.en) v0 v3).node == (rdE (EK.st SN.en) v1 v3).node && true)) then
 .ret (Sum.inr (Sum.inr (())))
 else
 .ret (Sum.inl (w64 (v3 + 1)))
 else
 .bot
 else
 .bot
 else
 .ret (Sum.inr (Sum.inl (())))
@[reducible] def sameEnL0I : PIf (VhL sameEnL0vs × OShL sameEnL0os) sameEnL0fin.Y where
  α := Unit ⊕ Unit
  tr x := T.loop (sameEnL0Step x.1.1 x.1.2.1 x.1.2.2.1) FU x.1.2.2.2.1
  enc x a := match a with | Sum.inl (b) => Sum.inl (((), ())) | Sum.inr (b) => Sum.inr (((false, ()), ()))
theorem sameEnL0_raw (v0 : List En) (v1 : List En) (v2 : Int) (v3 : Int) : runW 0 Tryz.f24 0 [0, 1, 12, 13] sameEnL0vs sameEnL0os sameEnL0fin [] [] [] (((v0, v1, v2, v3, ()), ()) : VhL sameEnL0vs × OShL sameEnL0os) = (bif decide (v3 < v2) then bif inR v3 v0.length then bif inR v3 v1.length then bif !((rdE (EK.st SN.en) v0 v3).edge == (rdE (EK.st SN.en) v1 v3).edge && ((rdE (EK.st SN.en) v0 v3).node == (rdE (EK.st SN.en) v1 v3).node && true)) then some (Sum.inr (Sum.inr ((false, ()), ()))) else some (Sum.inl ((v0, v1, v2, w64 (v3 + 1), ()), ())) else none else none
else some (Sum.inr (Sum.inl ((), ())))) := by kernel_rfl
theorem sameEnL0_ok : LOk Tryz.prog gl 0 (LCon.of Tryz.f24.ntmps [0, 1, 12, 13] sameEnL0vs sameEnL0os sameEnL0fin (PIf.spec sameEnL0I)) (getL (body Tryz.f24) 0) := by
  refine lwk (Lc := []) (nh := []) (G := []) (GOk.nil) (noloopN (by kernel_rfl)) (Fin.or_ok (Fin.one_ok _ _ _ _) (Fin.one_ok _ _ _ _)) ?_
  rintro ⟨⟨v0, v1, v2, v3, _⟩, _⟩ y hy
  refine ⟨_, loopP_ok (eX := fun (st : Int) => (let v3 := st; ((v0, v1, v2, v3, ()), ()) : VhL sameEnL0vs × OShL sameEnL0os)) (body := sameEnL0Step v0 v1 v2) (fun st => ?_) _ v3 y hy⟩
  revert st
  intro v3
  refine (sameEnL0_raw v0 v1 v2 v3).trans ?_
  unfold sameEnL0Step
  repeat' (first | refine cond_outP (fun _ => ?_) (fun _ => ?_) | rfl)
def sameEnTr (a : List En) (b : List En) : T (Bool) :=
 bif Int.ofNat a.length != Int.ofNat b.length then
 .ret false
 else
 (T.loop (sameEnL0Step a b (Int.ofNat a.length)) 4611686018427387904 0).bind fun b0 => selim b0
 (fun x0 => .ret true)
 (fun y0 => .ret false)
@[reducible] def sameEnI : PIf (VhL [.s (.e (.sl (.st .en))), .s (.e (.sl (.st .en)))] × OShL []) (VhL [vb] × OShL []) where
  α := Bool
  tr x := sameEnTr x.1.1 x.1.2.1
  enc x a := ((a, ()), ())
abbrev sameEn_T : Type := VhL [.s (.e (.sl (.st .en))), .s (.e (.sl (.st .en)))] × OShL [] → Option (VhL [vb] × OShL [])
noncomputable abbrev sameEn_C (sp : sameEn_T) : Con := Con.of [.s (.e (.sl (.st .en))), .s (.e (.sl (.st .en)))] [] [vb] [] sp
theorem sameEn_g : Callable Tryz.prog 24 := ⟨Tryz.f24, body Tryz.f24, by kernel_rfl, by kernel_rfl, by kernel_rfl⟩
theorem sameEn_raw (sp_sameEnL0 : VhL sameEnL0vs × OShL sameEnL0os → Option sameEnL0fin.Y) (a : List En) (b : List En) : runN Tryz.f24 [.s (.e (.sl (.st .en))), .s (.e (.sl (.st .en)))] [] [vb] [] [] [(4, LCon.of Tryz.f24.ntmps [0, 1, 12, 13] sameEnL0vs sameEnL0os sameEnL0fin sp_sameEnL0)] [] (((a, b, ()), ()) : VhL [.s (.e (.sl (.st .en))), .s (.e (.sl (.st .en)))] × OShL []) = (bif Int.ofNat a.length != Int.ofNat b.length then some ((false, ()), ()) else (sp_sameEnL0 ((a, b, Int.ofNat a.length, 0, ()), ())).bind fun val => selim val (fun val => some ((true, ()), ())) fun val => some ((val.1.1, ()), ())) := by kernel_rfl
theorem sameEn_ok : Sound Tryz.prog gl 24 (sameEn_C (PIf.spec sameEnI)) := by
  refine cnk (fn := Tryz.f24) (G := []) (GOk.nil) (by kernel_rfl) (by kernel_rfl) (Lc := [(4, LCon.of Tryz.f24.ntmps [0, 1, 12, 13] sameEnL0vs sameEnL0os sameEnL0fin (PIf.spec sameEnL0I))]) (nh := []) (lcok (bs := [getL (body Tryz.f24) 0]) (by kernel_rfl) ⟨lone_ok (q := (4, LCon.of Tryz.f24.ntmps [0, 1, 12, 13] sameEnL0vs sameEnL0os sameEnL0fin (PIf.spec sameEnL0I))) (by kernel_rfl) sameEnL0_ok, trivial⟩) ?_
  rintro ⟨⟨a, b, _⟩, _⟩
  refine (sameEn_raw (PIf.spec sameEnL0I) a b).trans ?_
  show _ = ((sameEnTr a b).val).map (sameEnI.enc ((a, b, ()), ()))
  unfold sameEnTr
  refine cond_outP (fun _ => ?_) (fun _ => ?_)
  · rfl
  · refine bindP (fun b0 => ?_)
    rcases b0 with x0 | y0
    · dsimp only [selim, cond_true, cond_false, Bool.not_true, Bool.not_false, one, none1, mI, sameEnL0I]
      try (first | refine (cond_t rfl).trans ?_ | refine (cond_f rfl).trans ?_)
      rfl
    · dsimp only [selim, cond_true, cond_false, Bool.not_true, Bool.not_false, one, none1, mI, sameEnL0I]
      try (first | refine (cond_t rfl).trans ?_ | refine (cond_f rfl).trans ?_)
      rfl
def sameResTr (a : Res) (b : Res) : T (Bool) :=
 bif a.err == b.err then
 bif a.id == b.id then
 (samePrTr a.pairs b.pairs).bind fun x0 =>
 bif x0 then
 (sameEnTr a.out b.out).bind fun x1 =>
 bif x1 then
 (sameEnTr a.inn b.inn).bind fun x2 =>
 .ret x2
 else
 .ret false
 else
 .ret false
 else
 .ret false
 else
 .ret false
@[reducible] def sameResI : PIf (VhL [.s (.e (.st .res)), .s (.e (.st .res))] × OShL []) (VhL [vb] × OShL []) where
  α := Bool
  tr x := sameResTr x.1.1 x.1.2.1
  enc x a := ((a, ()), ())
abbrev sameRes_T : Type := VhL [.s (.e (.st .res)), .s (.e (.st .res))] × OShL [] → Option (VhL [vb] × OShL [])
noncomputable abbrev sameRes_C (sp : sameRes_T) : Con := Con.of [.s (.e (.st .res)), .s (.e (.st .res))] [] [vb] [] sp
theorem sameRes_g : Callable Tryz.prog 14 := ⟨Tryz.f14, body Tryz.f14, by kernel_rfl, by kernel_rfl, by kernel_rfl⟩
theorem sameRes_raw (sp_samePr : samePr_T) (sp_sameEn : sameEn_T) (a : Res) (b : Res) : runN Tryz.f14 [.s (.e (.st .res)), .s (.e (.st .res))] [] [vb] [] [(23, samePr_C sp_samePr), (24, sameEn_C sp_sameEn)] [] [] (((a, b, ()), ()) : VhL [.s (.e (.st .res)), .s (.e (.st .res))] × OShL []) = (bif a.err == b.err then bif a.id == b.id then (sp_samePr ((a.pairs, b.pairs, ()), ())).bind fun val => bif val.1.1 then (sp_sameEn ((a.out, b.out, ()), ())).bind fun val => bif val.1.1 then (sp_sameEn ((a.inn, b.inn, ()), ())).bind fun val => some ((val.1.1, ()), ()) else some ((false, ()), ()) else some ((false, ()), ()) else some ((false, ()), ())
else some ((false, ()), ())) := by kernel_rfl
theorem sameRes_ok : Sound Tryz.prog gl 14 (sameRes_C (PIf.spec sameResI)) := by
  refine cnk (fn := Tryz.f14) (G := [(23, samePr_C (PIf.spec samePrI)), (24, sameEn_C (PIf.spec sameEnI))]) (GOk.cons samePr_g samePr_ok (GOk.cons sameEn_g sameEn_ok (GOk.nil))) (by kernel_rfl) (by kernel_rfl) (Lc := []) (nh := []) (noloopN (by kernel_rfl)) ?_
  rintro ⟨⟨a, b, _⟩, _⟩
  refine (sameRes_raw (PIf.spec samePrI) (PIf.spec sameEnI) a b).trans ?_
  show _ = ((sameResTr a b).val).map (sameResI.enc ((a, b, ()), ()))
  unfold sameResTr
  repeat' (first | refine cond_outP (fun _ => ?_) (fun _ => ?_) | (refine bindP (fun _ => ?_); try dsimp only [selim, cond_true, cond_false, Bool.not_true, Bool.not_false, one, none1, mI, samePrI, sameEnI]) | rfl)
end Go.Ax.Cd
/- Trees in plain Lean: what is asked, kept to by a rule; that nothing is used up; fewer answers. -/
namespace Go.Ax.Cd
def In64 (x : Int) : Prop := -9223372036854775808 ≤ x ∧ x ≤ 9223372036854775807
section
variable {σ : Type} (N : Nat) (st : σ → Acc → Option σ)
/-- Whatever is answered, n having been asked, s being the rule's state: each access is let by the rule, nothing is used up, and Q holds in the end. -/
def T.sat {α : Type} : T α → Nat → σ → (Nat → σ → α → Prop) → Prop
  | .ret a, n, s, Q => Q n s a
  | .ask c k, n, s, Q => ∃ s', st s c = some s' ∧ (n < N → ∀ x, In64 x → (k x).sat (n + 1) s' Q)
  | .bot, _, _, _ => False
variable {N st}
theorem T.sat_mono {α : Type} {t : T α} : ∀ {n : Nat} {s : σ} {Q Q' : Nat → σ → α → Prop}, t.sat N st n s Q → (∀ n s a, Q n s a → Q' n s a) → t.sat N st n s Q' := by
  induction t with
  | ret a => intro n s Q Q' h hq; exact hq _ _ _ h
  | ask c k ih => rintro n s Q Q' ⟨s', h1, h2⟩ hq; exact ⟨s', h1, fun hn x hx => ih x (h2 hn x hx) hq⟩
  | bot => intro n s Q Q' h hq; exact h
theorem T.sat_le {α : Type} {t : T α} : ∀ {n : Nat} {s : σ} {Q : Nat → σ → α → Prop}, t.sat N st n s Q → n ≤ N → t.sat N st n s (fun n' s' a => n ≤ n' ∧ n' ≤ N ∧ Q n' s' a) := by
  induction t with
  | ret a => intro n s Q h hn; exact ⟨Nat.le_refl _, hn, h⟩
  | ask c k ih => rintro n s Q ⟨s', h1, h2⟩ hn; exact ⟨s', h1, fun hl x hx => T.sat_mono (ih x (h2 hl x hx) hl) (fun n' s' a h => ⟨by omega, h.2⟩)⟩
  | bot => intro n s Q h hn; exact h
theorem T.sat_bind {α β : Type} {t : T α} {f : α → T β} : ∀ {n : Nat} {s : σ} {Q : Nat → σ → β → Prop}, t.sat N st n s (fun n s a => (f a).sat N st n s Q) → (t.bind f).sat N st n s Q := by
  induction t with
  | ret a => intro n s Q h; exact h
  | ask c k ih => rintro n s Q ⟨s', h1, h2⟩; exact ⟨s', h1, fun hn x hx => ih x (h2 hn x hx)⟩
  | bot => intro n s Q h; exact h
theorem T.sat_ask {α : Type} {c : Acc} {f : Int → T α} {n : Nat} {s s' : σ} {Q : Nat → σ → α → Prop} (h1 : st s c = some s') (h2 : n < N → ∀ x, In64 x → (f x).sat N st (n + 1) s' Q) : ((T.ask c T.ret).bind f).sat N st n s Q := ⟨s', h1, h2⟩
theorem T.sat_gret {α β : Type} {g : Bool} {a : α} {f : α → T β} {n : Nat} {s : σ} {Q : Nat → σ → β → Prop} (h1 : g = true) (h2 : (f a).sat N st n s Q) : ((T.gret g a).bind f).sat N st n s Q := by
  rw [h1]
  exact h2
theorem T.sat_cond {α : Type} {b : Bool} {x y : T α} {n : Nat} {s : σ} {Q : Nat → σ → α → Prop} (h1 : b = true → x.sat N st n s Q) (h2 : b = false → y.sat N st n s Q) : (bif b then x else y).sat N st n s Q := by
  cases b with
  | true => exact h1 rfl
  | false => exact h2 rfl
/-- A loop each round of which asks. -/
theorem T.sat_loop {τ β : Type} {body : τ → T (τ ⊕ β)} {Q : Nat → σ → β → Prop} (I : Nat → σ → τ → Prop)
    (hb : ∀ n s x, I n s x → n ≤ N → (body x).sat N st n s (fun n' s' r => match r with | .inl x' => n < n' ∧ I n' s' x' | .inr b => Q n' s' b)) :
    ∀ (k n : Nat) (s : σ) (x : τ), N < n + k → n ≤ N → I n s x → (T.loop body k x).sat N st n s Q
  | 0, n, s, x, hk, hn, _ => by omega
  | k + 1, n, s, x, hk, hn, hI => by
    rw [T.loop]
    refine T.sat_bind (T.sat_mono (T.sat_le (hb n s x hI hn) hn) ?_)
    rintro n' s' (x' | b) ⟨h1, h2, h3⟩
    · exact T.sat_loop I hb k n' s' x' (by have := h3.1; omega) h2 h3.2
    · exact h3
def ruled (st : σ → Acc → Option σ) : σ → List Acc → Option σ
  | s, [] => some s
  | s, c :: r => (st s c).bind fun s' => ruled st s' r
theorem runS_append (s : σ) (a b : List Acc) : ruled st s (a ++ b) = (ruled st s a).bind fun s' => ruled st s' b := by
  induction a generalizing s with
  | nil => rfl
  | cons c r ih =>
    simp only [List.cons_append, ruled]
    cases st s c with
    | none => rfl
    | some s' => simp [ih]
/-- With answers. -/
theorem T.sat_exec {α : Type} {got : List Int} (hN : got.length = N) (hN2 : N < 1000000000) (hg : ∀ x ∈ got, In64 x) {t : T α} : ∀ {d : List Acc} {s : σ} {Q : Nat → σ → α → Prop}, d.length ≤ N → t.sat N st d.length s Q →
    (∃ a e s', t.exec got d = .ok a (d ++ e) ∧ ruled st s e = some s' ∧ Q (d ++ e).length s' a ∧ (d ++ e).length ≤ N) ∨ (∃ e s', t.exec got d = .stop (d ++ e) ∧ ruled st s e = some s' ∧ (d ++ e).length = N + 1) := by
  induction t with
  | ret a =>
    intro d s Q hd h
    exact .inl ⟨a, [], s, by simp [T.exec], rfl, by simpa [T.sat] using h, by simpa using hd⟩
  | bot => intro d s Q hd h; exact h.elim
  | ask c k ih =>
    rintro d s Q hd ⟨s', h1, h2⟩
    simp only [T.exec]
    rw [if_pos (by omega)]
    by_cases hl : d.length < got.length
    · rw [if_pos hl]
      have hm : In64 (got.getD d.length 0) := by
        rw [List.getD_eq_getElem?_getD, List.getElem?_eq_getElem hl]
        exact hg _ (List.getElem_mem hl)
      have h3 := h2 (by omega) _ hm
      have e1 : (d ++ [c]).length = d.length + 1 := by simp
      rw [← e1] at h3
      rcases ih _ (by omega) h3 with ⟨a, e, s2, k1, k2, k3, k4⟩ | ⟨e, s2, k1, k2, k3⟩
      · exact .inl ⟨a, c :: e, s2, by simpa using k1, by simp [ruled, h1, k2], by simpa using k3, by simpa using k4⟩
      · exact .inr ⟨c :: e, s2, by simpa using k1, by simp [ruled, h1, k2], by simpa using k3⟩
    · rw [if_neg hl]
      exact .inr ⟨[c], s', rfl, by simp [ruled, h1], by simp; omega⟩
end
/-! ### Less used up -/
def T.le {α : Type} : T α → T α → Prop
  | .bot, _ => True
  | .ret a, t => t = .ret a
  | .ask c k, t => ∃ k', t = .ask c k' ∧ ∀ x, (k x).le (k' x)
theorem T.le_refl {α : Type} (t : T α) : t.le t := by
  induction t with
  | ret a => rfl
  | ask c k ih => exact ⟨k, rfl, ih⟩
  | bot => trivial
theorem T.le_bind {α β : Type} {t t' : T α} {f f' : α → T β} (h : t.le t') (hf : ∀ a, (f a).le (f' a)) : (t.bind f).le (t'.bind f') := by
  induction t generalizing t' with
  | ret a => rw [show t' = .ret a from h]; exact hf a
  | ask c k ih =>
    obtain ⟨k', rfl, h2⟩ := h
    exact ⟨_, rfl, fun x => ih x (h2 x)⟩
  | bot => trivial
theorem T.le_cond {α : Type} {b : Bool} {x y x' y' : T α} (h1 : x.le x') (h2 : y.le y') : (bif b then x else y).le (bif b then x' else y') := by
  cases b with
  | true => exact h1
  | false => exact h2
theorem T.le_loop {τ β : Type} {body body' : τ → T (τ ⊕ β)} (hb : ∀ x, (body x).le (body' x)) : ∀ (k k' : Nat) (x : τ), k ≤ k' → (T.loop body k x).le (T.loop body' k' x)
  | 0, _, _, _ => trivial
  | k + 1, 0, _, h => by omega
  | k + 1, k' + 1, x, h => by
    rw [T.loop, T.loop]
    refine T.le_bind (hb x) ?_
    rintro (x' | b)
    · exact T.le_loop hb k k' x' (by omega)
    · rfl
theorem T.le_exec {α : Type} {got : List Int} {t t' : T α} (h : t.le t') : ∀ {d : List Acc}, t.exec got d ≠ .bot → t'.exec got d = t.exec got d := by
  induction t generalizing t' with
  | ret a => intro d _; rw [show t' = .ret a from h]
  | ask c k ih =>
    intro d hd
    obtain ⟨k', rfl, h2⟩ := h
    simp only [T.exec] at hd ⊢
    split
    · rename_i h1
      rw [if_pos h1] at hd
      split
      · rename_i h3
        rw [if_pos h3] at hd
        exact ih _ (h2 _) hd
      · rfl
    · rfl
  | bot => intro d hd; exact absurd rfl hd
/-! ### Fewer answers -/
theorem T.exec_len {α : Type} {got : List Int} {t : T α} : ∀ {d : List Acc}, d.length ≤ got.length → (∀ a d', t.exec got d = .ok a d' → d.length ≤ d'.length ∧ d'.length ≤ got.length ∧ d'.take d.length = d) ∧ (∀ d', t.exec got d = .stop d' → d'.length = got.length + 1 ∧ d'.take d.length = d) := by
  induction t with
  | ret a => intro d hd; exact ⟨fun b d' h => (by cases h; exact ⟨Nat.le_refl _, hd, by simp⟩), fun d' h => by cases h⟩
  | bot => intro d hd; exact ⟨fun b d' h => (by cases h), fun d' h => by cases h⟩
  | ask c k ih =>
    intro d hd
    simp only [T.exec]
    split
    · split
      · rename_i h1 h2
        obtain ⟨i1, i2⟩ := ih (got.getD d.length 0) (d := d ++ [c]) (by simp; omega)
        have e : ∀ d' : List Acc, d'.take (d ++ [c]).length = d ++ [c] → d'.take d.length = d := fun d' h => by
          have := congrArg (List.take d.length) h
          rw [List.take_take] at this
          simpa [Nat.min_eq_left (Nat.le_succ _)] using this
        refine ⟨fun a d' h => ?_, fun d' h => ?_⟩
        · obtain ⟨j1, j2, j3⟩ := i1 a d' h
          exact ⟨by simp at j1; omega, j2, e _ j3⟩
        · obtain ⟨j1, j2⟩ := i2 d' h
          exact ⟨j1, e _ j2⟩
      · rename_i h1 h2
        exact ⟨fun a d' h => (by cases h), fun d' h => by cases h; exact ⟨by simp; omega, by simp⟩⟩
    · exact ⟨fun a d' h => (by cases h), fun d' h => by cases h⟩
theorem T.exec_take {α : Type} {got : List Int} {t : T α} {K : Nat} (hK : K ≤ got.length) : ∀ {d : List Acc}, d.length ≤ K →
    (∀ a d', t.exec got d = .ok a d' → t.exec (got.take K) d = if d'.length ≤ K then .ok a d' else .stop (d'.take (K + 1))) ∧ (∀ d', t.exec got d = .stop d' → t.exec (got.take K) d = .stop (d'.take (K + 1))) := by
  induction t with
  | ret a => intro d hd; exact ⟨fun b d' h => (by cases h; simp [T.exec, hd]), fun d' h => by cases h⟩
  | bot => intro d hd; exact ⟨fun b d' h => (by cases h), fun d' h => by cases h⟩
  | ask c k ih =>
    intro d hd
    simp only [T.exec]
    have hl : (got.take K).length = K := by simp; omega
    rw [hl]
    by_cases h1 : d.length < 1000000000
    · rw [if_pos h1, if_pos h1]
      by_cases h2 : d.length < got.length
      · rw [if_pos h2]
        by_cases h3 : d.length < K
        · rw [if_pos h3]
          have e : (got.take K).getD d.length 0 = got.getD d.length 0 := by
            rw [List.getD_eq_getElem?_getD, List.getD_eq_getElem?_getD, List.getElem?_take, if_pos h3]
          rw [e]
          exact ih _ (by simp; omega)
        · rw [if_neg h3]
          obtain rfl : d.length = K := by omega
          obtain ⟨i1, i2⟩ := T.exec_len (t := k (got.getD d.length 0)) (got := got) (d := d ++ [c]) (by simp; omega)
          refine ⟨fun a d' h => ?_, fun d' h => ?_⟩
          · obtain ⟨j1, j2, j3⟩ := i1 a d' h
            rw [if_neg (by simp at j1; omega)]
            rw [show (d ++ [c]).length = d.length + 1 by simp] at j3
            rw [j3]
          · obtain ⟨j1, j3⟩ := i2 d' h
            rw [show (d ++ [c]).length = d.length + 1 by simp] at j3
            rw [j3]
      · rw [if_neg h2, if_neg (by omega)]
        refine ⟨fun a d' h => (by cases h), fun d' h => ?_⟩
        cases h
        rw [List.take_of_length_le (by simp; omega)]
    · rw [if_neg h1, if_neg h1]
      exact ⟨fun a d' h => (by cases h), fun d' h => by cases h⟩
end Go.Ax.Cd
/- What each operation asks for, kept to by one rule: who stores holds a latch; latches are taken from the least on, and freed from the last. -/
namespace Go.Ax.Cd
set_option linter.unusedVariables false
/-- The rule's state: whether it frees; what is latched, the last one ahead. -/
abbrev RS := Bool × List Int
def rule (ro : Bool) (s : RS) (a : Acc) : Option RS :=
  if a.kind = 3 then some s
  else if a.kind = 7 then (if s.2 = [] then some s else none)
  else if a.kind = 5 then (match s.2 with
    | [] => some (false, [a.at_])
    | t :: r => if s.1 = false ∧ t < a.at_ then some (false, a.at_ :: t :: r) else none)
  else if a.kind = 6 then (match s.2 with
    | [] => none
    | t :: r => if t = a.at_ then some (true, r) else none)
  else if a.kind = 4 ∨ a.kind = 8 ∨ a.kind = 9 then (if ro = false ∧ s.2 ≠ [] then some s else none)
  else none
section
variable {N : Nat} {ro : Bool} {n : Nat} {s : RS} {c : Cfg} {got held : List Int}
theorem ask_one {α : Type} {a : Acc} {s' : RS} {f : Int → α} {Q : Nat → RS → α → Prop} (h : rule ro s a = some s') (hq : n < N → ∀ x, In64 x → Q (n + 1) s' (f x)) : ((T.ask a T.ret).bind fun x => .ret (f x)).sat N (rule ro) n s Q := ⟨s', h, hq⟩
theorem load_sat {w r f : Int} {Q : Nat → RS → Int → Prop} (hq : n < N → ∀ x, In64 x → Q (n + 1) s x) : (loadTr w r f c got held).sat N (rule ro) n s Q := ask_one (s' := s) (by simp [rule]) hq
theorem word_sat {w : Int} {Q : Nat → RS → Int → Prop} (hq : n < N → ∀ x, In64 x → Q (n + 1) s x) : (wordTr w c got held).sat N (rule ro) n s Q := ask_one (s' := s) (by simp [rule]) hq
theorem next_sat {w r f : Int} {Q : Nat → RS → Int → Prop} (hq : n < N → ∀ x, In64 x → Q (n + 1) s x) : (nextTr w r f c got held).sat N (rule ro) n s Q := T.sat_bind (load_sat hq)
theorem find_sat {w : Int} {Q : Nat → RS → Int → Prop} (hq : n < N → ∀ x, In64 x → Q (n + 1) s x) : (findTr w c got held).sat N (rule ro) n s Q := T.sat_bind (word_sat hq)
theorem see_sat {w : Int} {Q : Nat → RS → Int → Prop} (hs : s.2 = []) (hq : n < N → ∀ x, In64 x → Q (n + 1) s x) : (seeTr w c got held).sat N (rule ro) n s Q := ask_one (s' := s) (by simp [rule, hs]) hq
/-- Who may store. -/
def Wr (ro : Bool) (s : RS) : Prop := ro = false ∧ s.2 ≠ []
theorem store_sat {w r f v : Int} {Q : Nat → RS → Unit → Prop} (hs : Wr ro s) (hq : n < N → Q (n + 1) s ()) : (storeTr w r f v c got held).sat N (rule ro) n s Q := ask_one (f := fun _ => ()) (s' := s) (by simp [rule, hs.1, hs.2]) (fun h _ _ => hq h)
theorem set_sat {w v : Int} {Q : Nat → RS → Unit → Prop} (hs : Wr ro s) (hq : n < N → Q (n + 1) s ()) : (setTr w v c got held).sat N (rule ro) n s Q := ask_one (f := fun _ => ()) (s' := s) (by simp [rule, hs.1, hs.2]) (fun h _ _ => hq h)
theorem retire_sat {w r : Int} {Q : Nat → RS → Unit → Prop} (hs : Wr ro s) (hq : n < N → Q (n + 1) s ()) : (retireTr w r c got held).sat N (rule ro) n s Q := ask_one (f := fun _ => ()) (s' := s) (by simp [rule, hs.1, hs.2]) (fun h _ _ => hq h)
theorem take_sat {w : Int} {Q : Nat → RS → Int → Prop} (hs : Wr ro s) (hq : n < N → ∀ x, In64 x → Q (n + 1) s x) : (takeTr w c got held).sat N (rule ro) n s Q := ask_one (s' := s) (by simp [rule, hs.1, hs.2]) hq
theorem unlink_sat (hg : got.length = N) {sd : Sid} {m w r : Int} {Q : Nat → RS → Unit → Prop} (hs : Wr ro s) (hq : ∀ n', n < n' → n' ≤ N → Q n' s ()) : (unlinkTr sd m w r c got held).sat N (rule ro) n s Q := by
  unfold unlinkTr
  refine T.sat_bind (find_sat fun h1 x1 hx1 => ?_)
  refine T.sat_bind (load_sat fun h2 x2 hx2 => ?_)
  refine T.sat_bind (load_sat fun h3 x3 hx3 => ?_)
  refine T.sat_cond (fun _ => ?_) (fun _ => ?_)
  · exact T.sat_bind (store_sat hs fun h4 => hq _ (by omega) (by omega))
  · refine T.sat_bind (T.sat_loop (fun n' s' _ => n < n' ∧ s' = s) (fun n' s' x hI hn' => ?_) _ _ _ _ (by omega) (by omega) ⟨by omega, rfl⟩)
    obtain ⟨h5, rfl⟩ := hI
    unfold unlinkL0Step
    dsimp only
    refine T.sat_cond (fun _ => ?_) (fun _ => ?_)
    · refine T.sat_bind (next_sat fun h6 x6 hx6 => ?_)
      refine T.sat_cond (fun _ => ?_) (fun _ => ?_)
      · exact T.sat_bind (store_sat hs fun h7 => hq _ (by omega) (by omega))
      · exact ⟨by omega, by omega, rfl⟩
    · exact hq _ h5 hn'
/-! ### Latches -/
theorem ordSet_lt (l : List Int) : (ordSet l).Pairwise (· < ·) := by
  have h1 : (ordSet l).Pairwise (fun x y => decide (x ≤ y) = true) := List.pairwise_mergeSort (fun a b c h1 h2 => by simp at *; omega) (fun a b => by simp; omega) _
  have h2 : (ordSet l).Nodup := (List.mergeSort_perm (dedupL l) _).nodup_iff.2 (nodup_dedupL l)
  refine (h1.and h2).imp ?_
  rintro a b ⟨h3, h4⟩
  have := of_decide_eq_true h3
  omega
theorem mem_ordSet (l : List Int) (x : Int) : x ∈ ordSet l ↔ x ∈ l := by
  rw [ordSet, (List.mergeSort_perm (dedupL l) _).mem_iff, mem_dedupL]
theorem dedupL_len (l : List Int) : (dedupL l).length ≤ l.length := by
  induction l with
  | nil => simp [dedupL]
  | cons a l ih =>
    rw [dedupL]
    split
    · simp; omega
    · simp; omega
theorem ordSet_len (l : List Int) : (ordSet l).length ≤ l.length := by
  rw [ordSet, List.length_mergeSort]
  exact dedupL_len l
theorem ordSet_ne {l : List Int} (h : l ≠ []) : ordSet l ≠ [] := by
  obtain ⟨a, r, rfl⟩ := List.exists_cons_of_ne_nil h
  exact List.ne_nil_of_mem ((mem_ordSet _ a).2 (by simp))
theorem rule_latch {S : List Int} (hp : S.Pairwise (· < ·)) {k : Nat} (hk : k < S.length) {s : RS} (h1 : s.2 = (S.take k).reverse) (h2 : 0 < k → s.1 = false) : rule ro s ⟨5, S[k], 0, 0, 0, 0⟩ = some (false, (S.take (k + 1)).reverse) := by
  have e1 : (S.take (k + 1)).reverse = S[k] :: (S.take k).reverse := by
    rw [List.take_succ_eq_append_getElem hk, List.reverse_append]
    rfl
  simp only [rule]
  rw [if_neg (by decide), if_neg (by decide), if_pos trivial, h1, e1]
  cases k with
  | zero => rfl
  | succ k =>
    have e2 : (S.take (k + 1)).reverse = S[k] :: (S.take k).reverse := by
      rw [List.take_succ_eq_append_getElem (by omega), List.reverse_append]
      rfl
    rw [e2]
    dsimp only
    rw [if_pos ⟨h2 (by omega), List.pairwise_iff_getElem.1 hp k (k + 1) (by omega) hk (by omega)⟩]
theorem ordG_of {l : List Int} (h1 : l.length ≤ 1000000) (h2 : ∀ x ∈ l, In64 x) : ordG l = true := by
  unfold ordG
  rw [Bool.and_eq_true, List.all_eq_true]
  exact ⟨decide_eq_true h1, fun x hx => by rw [Bool.and_eq_true]; exact ⟨decide_eq_true (h2 x hx).1, decide_eq_true (h2 x hx).2⟩⟩
theorem latch_sat (hg : got.length = N) (hn : n ≤ N) {l : List Int} {Q : Nat → RS → List Int → Prop} (hs : s.2 = []) (h1 : l.length ≤ 1000000) (h2 : ∀ x ∈ l, In64 x) (h3 : l ≠ []) (hq : ∀ n', n < n' → n' ≤ N → Q n' (false, (ordSet l).reverse) (ordSet l)) :
    (latchTr l c got held).sat N (rule ro) n s Q := by
  unfold latchTr
  refine T.sat_gret (ordG_of h1 h2) ?_
  have hp := ordSet_lt l
  have hne := ordSet_ne h3
  have hlen := ordSet_len l
  generalize ordSet l = S at hp hne hlen hq
  refine T.sat_bind (T.sat_loop (fun n' s' (v : Int) => ∃ k : Nat, v = k ∧ k ≤ S.length ∧ n' = n + k ∧ s'.2 = (S.take k).reverse ∧ (0 < k → s'.1 = false)) (fun n' s' x hI hn' => ?_) _ _ _ _ (by omega) (by omega) ⟨0, rfl, by omega, by omega, by simpa using hs, by omega⟩)
  obtain ⟨k, rfl, hk, rfl, k1, k2⟩ := hI
  unfold latchL0Step
  dsimp only
  by_cases hlt : k < S.length
  · rw [decide_eq_true (by simp; omega), cond_true]
    have e1 : inR (k : Int) S.length = true := by simp [inR]; omega
    rw [e1, cond_true]
    have e2 : rdE EK.int S (k : Int) = S[k] := by simp [rdE, rd, hlt]
    rw [e2]
    refine T.sat_ask (rule_latch hp hlt k1 k2) (fun h4 x hx => ?_)
    have e3 : w64 ((k : Int) + 1) = ((k + 1 : Nat) : Int) := by rw [w64_id] <;> omega
    rw [e3]
    exact ⟨by omega, k + 1, rfl, hlt, by omega, rfl, fun _ => rfl⟩
  · obtain rfl : k = S.length := by omega
    rw [decide_eq_false (by simp), cond_false]
    have h0 : 0 < S.length := List.length_pos_iff.2 hne
    have e4 : s' = (false, S.reverse) := by
      rw [List.take_length] at k1
      exact Prod.ext (k2 h0) k1
    rw [e4]
    exact hq _ (by omega) hn'
theorem freeT_sat : ∀ (l : List Int) {n : Nat} {s : RS} {Q : Nat → RS → Unit → Prop}, s.2 = l → n ≤ N → (∀ n' b, n ≤ n' → n' ≤ N → Q n' (b, []) ()) → (freeT l).sat N (rule ro) n s Q
  | [], n, s, Q, hs, hn, hq => by
    have : s = (s.1, []) := Prod.ext rfl hs
    rw [this]
    exact hq _ _ (Nat.le_refl _) hn
  | a :: l, n, s, Q, hs, hn, hq => by
    refine ⟨(true, l), ?_, fun h x hx => freeT_sat l rfl h (fun n' b h1 h2 => hq _ _ (by omega) h2)⟩
    simp [rule, hs]
theorem free_sat {Q : Nat → RS → Unit → Prop} (hs : s.2 = held.reverse) (hl : held.length ≤ 1000000) (hn : n ≤ N) (hq : ∀ n' b, n ≤ n' → n' ≤ N → Q n' (b, []) ()) : (freeTr held).sat N (rule ro) n s Q := by
  unfold freeTr
  rw [decide_eq_true hl, cond_true]
  exact freeT_sat _ hs hn hq
end
end Go.Ax.Cd
/- The operations, by the rule. -/
namespace Go.Ax.Cd
set_option linter.unusedVariables false
section
variable {N : Nat} {ro : Bool} {n : Nat} {s : RS} {c : Cfg} {got held : List Int}
/-- What is latched is what is said to be. -/
def Dn (s : RS) (held : List Int) : Prop := s.2 = held.reverse ∧ held.length ≤ 1000000 ∧ ∀ x ∈ held, In64 x
theorem Dn.set (b : Bool) {l : List Int} (h : l.length ≤ 1000000) (h2 : ∀ x ∈ l, In64 x) : Dn (b, (ordSet l).reverse) (ordSet l) := ⟨rfl, Nat.le_trans (ordSet_len l) h, fun x hx => h2 x ((mem_ordSet l x).1 hx)⟩
theorem in64_0 : In64 0 := ⟨by decide, by decide⟩
theorem all1 {a : Int} (ha : In64 a) : ∀ x ∈ [a], In64 x := fun x hx => by simp at hx; subst hx; exact ha
theorem all2 {a b : Int} (ha : In64 a) (hb : In64 b) : ∀ x ∈ [a, b], In64 x := fun x hx => by simp at hx; rcases hx with rfl | rfl <;> assumption
theorem all3 {a b d : Int} (ha : In64 a) (hb : In64 b) (hd : In64 d) : ∀ x ∈ [a, b, d], In64 x := fun x hx => by simp at hx; rcases hx with rfl | rfl | rfl <;> assumption
theorem Wr.set {l : List Int} (h : ro = false) (hl : l ≠ []) : Wr ro (false, (ordSet l).reverse) := ⟨h, by simpa using ordSet_ne hl⟩
theorem known2_sat {a b : Int} {Q : Nat → RS → Bool → Prop} (hq : ∀ r, Q n s r) : (knownTr [a, b] c got held).sat N (rule ro) n s Q := by
  have e1 : inR 0 [a, b].length = true := rfl
  have e2 : inR (w64 (Int.ofNat [a, b].length - 1)) [a, b].length = true := by kernel_rfl
  unfold knownTr
  simp only [e1, e2, cond_true]
  exact T.sat_cond (fun _ => hq _) (fun _ => hq _)
theorem known1_sat {a : Int} {Q : Nat → RS → Bool → Prop} (hq : ∀ r, Q n s r) : (knownTr [a] c got held).sat N (rule ro) n s Q := by
  have e1 : inR 0 [a].length = true := rfl
  have e2 : inR (w64 (Int.ofNat [a].length - 1)) [a].length = true := by kernel_rfl
  unfold knownTr
  simp only [e1, e2, cond_true]
  exact T.sat_cond (fun _ => hq _) (fun _ => hq _)
/-- A result of bounded size. -/
def Sm (r : Res) : Prop := r.pairs.length ≤ 1000 ∧ r.out.length ≤ 1000 ∧ r.inn.length ≤ 1000
theorem sm0 {e i : Int} : Sm (Res.mk e i [] [] []) := ⟨Nat.zero_le _, Nat.zero_le _, Nat.zero_le _⟩
abbrev QD (_ : Nat) (s : RS) (x : Res × List Int) : Prop := Dn s x.2 ∧ Sm x.1
theorem add_sat (hg : got.length = N) (hn : n ≤ N) (hr : ro = false) (hs : s.2 = []) : (addTr c got held).sat N (rule ro) n s QD := by
  unfold addTr
  refine T.sat_bind (latch_sat hg hn hs (by simp) (all1 in64_0) (by simp) fun n' h1 h2 => ?_)
  have hw : Wr ro (false, (ordSet [0]).reverse) := .set hr (by simp)
  have hD : Dn (false, (ordSet [0]).reverse) (ordSet [0]) := .set _ (by simp) (all1 in64_0)
  generalize ordSet [0] = S at hw hD
  repeat' (first
    | exact ⟨hD, sm0⟩
    | refine T.sat_bind (load_sat fun _ _ _ => ?_)
    | refine T.sat_bind (word_sat fun _ _ _ => ?_)
    | refine T.sat_bind (find_sat fun _ _ _ => ?_)
    | refine T.sat_bind (next_sat fun _ _ _ => ?_)
    | refine T.sat_bind (store_sat hw fun _ => ?_)
    | refine T.sat_bind (set_sat hw fun _ => ?_)
    | refine T.sat_bind (retire_sat hw fun _ => ?_)
    | refine T.sat_bind (take_sat hw fun _ _ _ => ?_)
    | refine T.sat_bind (unlink_sat hg hw fun _ _ _ => ?_)
    | refine T.sat_cond (fun _ => ?_) (fun _ => ?_))
theorem link_sat (hg : got.length = N) (hn : n ≤ N) (hr : ro = false) (hs : s.2 = []) (h0 : Dn s held) {a b : Int} (ha : In64 a) (hb : In64 b) : (linkTr a b c got held).sat N (rule ro) n s QD := by
  unfold linkTr
  refine T.sat_bind (known2_sat fun r => ?_)
  refine T.sat_cond (fun _ => ⟨h0, sm0⟩) (fun _ => ?_)
  refine T.sat_bind (latch_sat hg hn hs (by simp) (all3 in64_0 ha hb) (by simp) fun n' h1 h2 => ?_)
  have hw : Wr ro (false, (ordSet [0, a, b]).reverse) := .set hr (by simp)
  have hD : Dn (false, (ordSet [0, a, b]).reverse) (ordSet [0, a, b]) := .set _ (by simp) (all3 in64_0 ha hb)
  generalize ordSet [0, a, b] = S at hw hD
  repeat' (first
    | exact ⟨hD, sm0⟩
    | refine T.sat_bind (load_sat fun _ _ _ => ?_)
    | refine T.sat_bind (word_sat fun _ _ _ => ?_)
    | refine T.sat_bind (find_sat fun _ _ _ => ?_)
    | refine T.sat_bind (next_sat fun _ _ _ => ?_)
    | refine T.sat_bind (store_sat hw fun _ => ?_)
    | refine T.sat_bind (set_sat hw fun _ => ?_)
    | refine T.sat_bind (retire_sat hw fun _ => ?_)
    | refine T.sat_bind (take_sat hw fun _ _ _ => ?_)
    | refine T.sat_bind (unlink_sat hg hw fun _ _ _ => ?_)
    | refine T.sat_cond (fun _ => ?_) (fun _ => ?_))
end
end Go.Ax.Cd
/- The operations, by the rule: go on. -/
namespace Go.Ax.Cd
set_option linter.unusedVariables false
section
variable {N : Nat} {ro : Bool} {n : Nat} {s : RS} {c : Cfg} {got held : List Int}
theorem cut_sat (hg : got.length = N) (hn : n ≤ N) (hr : ro = false) (h0 : Dn s held) {i : Int} : (cutTr i c got held).sat N (rule ro) n s QD := by
  unfold cutTr
  refine T.sat_cond (fun _ => ⟨h0, sm0⟩) (fun _ => T.sat_cond (fun _ => ⟨h0, sm0⟩) (fun _ => ?_))
  refine T.sat_bind (T.sat_loop (fun n' s' x => Dn s' x.1) ?_ _ _ _ _ (by omega) hn h0)
  rintro n s ⟨held, v10, v11⟩ hD hn
  dsimp only at hD
  unfold cutL0Step
  dsimp only
  refine T.sat_bind (word_sat fun h1 x1 hx1 => ?_)
  refine T.sat_cond (fun _ => ⟨hD, sm0⟩) (fun _ => ?_)
  refine T.sat_bind (load_sat fun h2 x4 hx4 => ?_)
  refine T.sat_bind (load_sat fun h3 x5 hx5 => ?_)
  have hfree : ∀ {Q : Nat → RS → (List Int × Int × Int) ⊕ (List Int × Int) → Prop}, (∀ n', n < n' → Dn (false, (ordSet [x4, x5]).reverse) (ordSet [x4, x5]) → Q n' (false, (ordSet [x4, x5]).reverse) (.inl (ordSet [x4, x5], x4, x5))) →
      ((freeTr held).bind fun _ => (latchTr [x4, x5] c got []).bind fun x8 => .ret (Sum.inl (x8, x4, x5))).sat N (rule ro) (n + 1 + 1 + 1) s Q := fun hq => by
    refine T.sat_bind (free_sat hD.1 hD.2.1 (by omega) fun n1 b h4 h5 => ?_)
    refine T.sat_bind (latch_sat hg h5 rfl (by simp) (all2 hx4 hx5) (by simp) fun n2 h6 h7 => ?_)
    exact hq _ (by omega) (.set _ (by simp) (all2 hx4 hx5))
  refine T.sat_cond (fun he => ?_) (fun _ => hfree fun _ h5 h6 => ⟨h5, h6⟩)
  have hw : Wr ro s := ⟨hr, by rw [hD.1]; simpa using he⟩
  refine T.sat_gret (by rw [ordG_of (by simp) (all2 hx4 hx5), ordG_of hD.2.1 hD.2.2]; rfl) ?_
  refine T.sat_cond (fun _ => ?_) (fun _ => hfree fun _ h5 h6 => ⟨h5, h6⟩)
  repeat' (first
    | exact ⟨hD, sm0⟩
    | refine T.sat_bind (load_sat fun _ _ _ => ?_)
    | refine T.sat_bind (word_sat fun _ _ _ => ?_)
    | refine T.sat_bind (find_sat fun _ _ _ => ?_)
    | refine T.sat_bind (next_sat fun _ _ _ => ?_)
    | refine T.sat_bind (store_sat hw fun _ => ?_)
    | refine T.sat_bind (set_sat hw fun _ => ?_)
    | refine T.sat_bind (retire_sat hw fun _ => ?_)
    | refine T.sat_bind (take_sat hw fun _ _ _ => ?_)
    | refine T.sat_bind (unlink_sat hg hw fun _ _ _ => ?_)
    | refine T.sat_cond (fun _ => ?_) (fun _ => ?_))
/-! ### Properties -/
theorem walkS_sat (hg : got.length = N) (hn : n ≤ N) (hw : Wr ro s) {w r k v : Int} {Q : Nat → RS → Bool → Prop} (hq : ∀ n' b, n ≤ n' → n' ≤ N → Q n' s b) : (walkSTr w r c got held k v).sat N (rule ro) n s Q := by
  unfold walkSTr
  refine T.sat_bind (T.sat_loop (fun n' s' _ => n ≤ n' ∧ s' = s) ?_ _ _ _ _ (by omega) hn ⟨by omega, rfl⟩)
  rintro n1 s1 ⟨v12, v13, v16⟩ ⟨hI, rfl⟩ hn1
  unfold walkSL0Step
  dsimp only
  refine T.sat_cond (fun _ => ?_) (fun _ => hq _ _ hI hn1)
  refine T.sat_bind ?_
  unfold setCTr
  refine T.sat_bind (load_sat fun h1 x1 hx1 => ?_)
  refine T.sat_cond (fun _ => ?_) (fun _ => T.sat_bind (store_sat hw fun h2 => hq _ _ (by omega) (by omega)))
  exact T.sat_bind (next_sat fun h3 x3 hx3 => ⟨by omega, by omega, rfl⟩)
theorem setProp_sat (hg : got.length = N) (hn : n ≤ N) (hr : ro = false) (hs : s.2 = []) (h0 : Dn s held) {m k v : Int} (hm : In64 m) : (setPropTr m k v c got held).sat N (rule ro) n s QD := by
  unfold setPropTr
  refine T.sat_bind (known1_sat fun r => ?_)
  refine T.sat_cond (fun _ => ⟨h0, sm0⟩) (fun _ => ?_)
  refine T.sat_bind (latch_sat hg hn hs (by simp) (all1 hm) (by simp) fun n' h1 h2 => ?_)
  have hw : Wr ro (false, (ordSet [m]).reverse) := .set hr (by simp)
  have hD : Dn (false, (ordSet [m]).reverse) (ordSet [m]) := .set _ (by simp) (all1 hm)
  generalize ordSet [m] = S at hw hD
  refine T.sat_bind (find_sat fun h3 x2 hx2 => ?_)
  refine T.sat_cond (fun _ => ⟨hD, sm0⟩) (fun _ => ?_)
  refine T.sat_bind (load_sat fun h4 x4 hx4 => ?_)
  refine T.sat_bind (walkS_sat hg (by omega) hw fun n5 b h5 h6 => ?_)
  repeat' (first
    | exact ⟨hD, sm0⟩
    | refine T.sat_bind (load_sat fun _ _ _ => ?_)
    | refine T.sat_bind (word_sat fun _ _ _ => ?_)
    | refine T.sat_bind (find_sat fun _ _ _ => ?_)
    | refine T.sat_bind (next_sat fun _ _ _ => ?_)
    | refine T.sat_bind (store_sat hw fun _ => ?_)
    | refine T.sat_bind (set_sat hw fun _ => ?_)
    | refine T.sat_bind (retire_sat hw fun _ => ?_)
    | refine T.sat_bind (take_sat hw fun _ _ _ => ?_)
    | refine T.sat_bind (unlink_sat hg hw fun _ _ _ => ?_)
    | refine T.sat_cond (fun _ => ?_) (fun _ => ?_))
theorem walkD_sat (hg : got.length = N) (hn : n ≤ N) (hw : Wr ro s) {w r k w3 r3 : Int} {Q : Nat → RS → Bool → Prop} (hq : ∀ n' b, n ≤ n' → n' ≤ N → Q n' s b) : (walkDTr w r c got held k w3 r3).sat N (rule ro) n s Q := by
  unfold walkDTr
  refine T.sat_bind (T.sat_loop (fun n' s' _ => n ≤ n' ∧ s' = s) ?_ _ _ _ _ (by omega) hn ⟨by omega, rfl⟩)
  rintro n1 s1 ⟨v12, v13, v16⟩ ⟨hI, rfl⟩ hn1
  unfold walkDL0Step
  dsimp only
  refine T.sat_cond (fun _ => ?_) (fun _ => hq _ _ hI hn1)
  refine T.sat_bind ?_
  unfold delCTr
  have hD : ∀ n', n1 < n' → n' ≤ N → True := fun _ _ _ => trivial
  repeat' (first
    | exact ⟨by omega, by omega, rfl⟩
    | exact hq _ _ (by omega) (by omega)
    | refine T.sat_bind (load_sat fun _ _ _ => ?_)
    | refine T.sat_bind (next_sat fun _ _ _ => ?_)
    | refine T.sat_bind (store_sat hw fun _ => ?_)
    | refine T.sat_bind (retire_sat hw fun _ => ?_)
    | refine T.sat_cond (fun _ => ?_) (fun _ => ?_))
theorem delProp_sat (hg : got.length = N) (hn : n ≤ N) (hr : ro = false) (hs : s.2 = []) (h0 : Dn s held) {m k : Int} (hm : In64 m) : (delPropTr m k c got held).sat N (rule ro) n s QD := by
  unfold delPropTr
  refine T.sat_bind (known1_sat fun r => ?_)
  refine T.sat_cond (fun _ => ⟨h0, sm0⟩) (fun _ => ?_)
  refine T.sat_bind (latch_sat hg hn hs (by simp) (all1 hm) (by simp) fun n' h1 h2 => ?_)
  have hw : Wr ro (false, (ordSet [m]).reverse) := .set hr (by simp)
  have hD : Dn (false, (ordSet [m]).reverse) (ordSet [m]) := .set _ (by simp) (all1 hm)
  generalize ordSet [m] = S at hw hD
  refine T.sat_bind (find_sat fun h3 x2 hx2 => ?_)
  refine T.sat_cond (fun _ => ⟨hD, sm0⟩) (fun _ => ?_)
  refine T.sat_bind (load_sat fun h4 x4 hx4 => ?_)
  refine T.sat_bind (walkD_sat hg (by omega) hw fun n5 b h5 h6 => ?_)
  repeat' (first
    | exact ⟨hD, sm0⟩
    | refine T.sat_bind (load_sat fun _ _ _ => ?_)
    | refine T.sat_bind (word_sat fun _ _ _ => ?_)
    | refine T.sat_bind (find_sat fun _ _ _ => ?_)
    | refine T.sat_bind (next_sat fun _ _ _ => ?_)
    | refine T.sat_bind (store_sat hw fun _ => ?_)
    | refine T.sat_bind (set_sat hw fun _ => ?_)
    | refine T.sat_bind (retire_sat hw fun _ => ?_)
    | refine T.sat_bind (take_sat hw fun _ _ _ => ?_)
    | refine T.sat_bind (unlink_sat hg hw fun _ _ _ => ?_)
    | refine T.sat_cond (fun _ => ?_) (fun _ => ?_))
end
end Go.Ax.Cd
/- The operations, by the rule: what is held. -/
namespace Go.Ax.Cd
set_option linter.unusedVariables false
section
variable {N : Nat} {ro : Bool} {n : Nat} {s : RS} {c : Cfg} {got held : List Int}
/-- A list of numbers, of bounded length. -/
def Ls (B : Nat) (l : List Int) : Prop := l.length ≤ B ∧ ∀ x ∈ l, In64 x
theorem eachA_sat (hg : got.length = N) (hN : N ≤ 1000) (hn : n ≤ N) {w r : Int} {sd sd2 : Sid} {us : List Int} (hu : Ls (n + N) us) {Q : Nat → RS → List Int → Prop} (hq : ∀ n' x, n < n' → n' ≤ N → Ls (n' + N) x → Q n' s x) : (eachATr w r sd c got held sd2 us).sat N (rule ro) n s Q := by
  unfold eachATr
  refine T.sat_bind (load_sat fun h1 x1 hx1 => ?_)
  refine T.sat_bind (T.sat_loop (fun n' s' x => n < n' ∧ s' = s ∧ Ls (n' + N) x.1) ?_ _ _ _ _ (by omega) (by omega) ⟨by omega, rfl, by have := hu.1; show us.length ≤ _; omega, hu.2⟩)
  rintro n1 s1 ⟨us, v15⟩ ⟨hI, rfl, hl⟩ hn1
  unfold eachAL0Step
  dsimp only at hl ⊢
  refine T.sat_cond (fun _ => ?_) (fun _ => hq _ _ hI hn1 hl)
  refine T.sat_bind ?_
  unfold aroundCTr
  refine T.sat_bind (load_sat fun h2 x2 hx2 => ?_)
  have hl1 := hl.1
  rw [decide_eq_true (by simp; omega), cond_true]
  refine T.sat_bind (next_sat fun h3 x3 hx3 => ?_)
  refine ⟨by omega, by omega, rfl, by simp; omega, fun x hx => ?_⟩
  rcases List.mem_append.1 hx with h | h
  · exact hl.2 x h
  · simp at h; subst h; exact hx2
theorem around_sat (hg : got.length = N) (hN : N ≤ 1000) (hn : n ≤ N) {w r : Int} {Q : Nat → RS → List Int → Prop} (hq : ∀ n' x, n < n' → n' ≤ N → Ls 2000 x → Q n' s x) : (aroundTr w r c got held).sat N (rule ro) n s Q := by
  unfold aroundTr
  refine T.sat_bind (eachA_sat hg hN hn ⟨by simp, fun x hx => (by cases hx)⟩ fun n1 x1 h1 h2 h3 => ?_)
  refine T.sat_bind (eachA_sat hg hN h2 h3 fun n4 x4 h4 h5 h6 => ?_)
  exact hq _ _ (by omega) h5 ⟨by have := h6.1; omega, h6.2⟩
theorem Ls.append {B : Nat} {l m : List Int} (h : Ls 2000 l) (h2 : Ls 2 m) : Ls 2002 (l ++ m) := ⟨by simp; have := h.1; have := h2.1; omega, fun x hx => (List.mem_append.1 hx).elim (h.2 x) (h2.2 x)⟩
theorem holdD_sat (hg : got.length = N) (hN : N ≤ 1000) (hn : n ≤ N) (hr : ro = false) (hs : s.2 = []) (h0 : Dn s held) {m : Int} {more : List Int} (hm : more ≠ []) (hm2 : Ls 2 more) {Q : Nat → RS → Int × Bool × List Int → Prop}
    (hq : ∀ n' s' x, n ≤ n' → n' ≤ N → Dn s' x.2.2 → (x.2.1 = true → Wr ro s') → Q n' s' x) : (holdDTr m more c got held).sat N (rule ro) n s Q := by
  unfold holdDTr
  refine T.sat_bind (find_sat fun h1 x1 hx1 => ?_)
  refine T.sat_cond (fun _ => hq _ _ _ (by omega) (by omega) h0 (fun h => by cases h)) (fun _ => ?_)
  refine T.sat_bind (around_sat hg hN (by omega) fun n2 x2 h2 h3 h4 => ?_)
  have hl := h4.1
  have hl2 := hm2.1
  rw [decide_eq_true (by omega), cond_true]
  refine T.sat_bind (T.sat_loop (fun n' s' x => n ≤ n' ∧ s'.2 = [] ∧ x.2.2.2 ≠ [] ∧ Ls 2002 x.2.2.2) ?_ _ _ _ _ (by omega) h3 ⟨by omega, hs, by simpa using fun _ => hm, h4.append (B := 0) hm2⟩)
  rintro n5 s5 ⟨held5, v15, v16, v17⟩ ⟨h5, h6, h7, h8⟩ hn5
  dsimp only at h7 h8
  unfold holdDL0Step
  dsimp only
  have h81 := h8.1
  refine T.sat_bind (latch_sat hg hn5 h6 (by omega) h8.2 h7 fun n9 h9 h10 => ?_)
  have hw : Wr ro (false, (ordSet v17).reverse) := .set hr h7
  have hD : Dn (false, (ordSet v17).reverse) (ordSet v17) := .set _ (by omega) h8.2
  generalize ordSet v17 = S at hw hD
  refine T.sat_bind (find_sat fun h11 x11 hx11 => ?_)
  refine T.sat_cond (fun _ => hq _ _ _ (by omega) (by omega) hD (fun h => by cases h)) (fun _ => ?_)
  refine T.sat_bind (around_sat hg hN (by omega) fun n12 x12 h12 h13 h14 => ?_)
  have hl3 := h14.1
  rw [decide_eq_true (by omega), cond_true]
  have h15 := h14.append (B := 0) hm2
  refine T.sat_gret (by rw [ordG_of (by have := h15.1; omega) h15.2, ordG_of hD.2.1 hD.2.2]; rfl) ?_
  refine T.sat_cond (fun _ => hq _ _ _ (by omega) h13 hD (fun _ => hw)) (fun _ => ?_)
  refine T.sat_bind (free_sat hD.1 hD.2.1 h13 fun n16 b h16 h17 => ?_)
  exact ⟨by omega, by omega, rfl, by simpa using fun _ => hm, h15⟩
/-! ### What is taken out -/
theorem gone1_sat (hg : got.length = N) (hn : n ≤ N) (hw : Wr ro s) {w r m : Int} {sd : Sid} {Q : Nat → RS → Unit → Prop} (hq : ∀ n', n < n' → n' ≤ N → Q n' s ()) : (gone1Tr w r sd c got held m).sat N (rule ro) n s Q := by
  unfold gone1Tr
  refine T.sat_bind (load_sat fun h1 x1 hx1 => ?_)
  refine T.sat_bind (T.sat_loop (fun n' s' _ => n < n' ∧ s' = s) ?_ _ _ _ _ (by omega) (by omega) ⟨by omega, rfl⟩)
  rintro n1 s1 v12 ⟨hI, rfl⟩ hn1
  unfold gone1L0Step goneC2Tr goneC3Tr
  dsimp only
  refine T.sat_cond (fun _ => T.sat_bind ?_) (fun _ => hq _ hI hn1)
  refine T.sat_bind (load_sat fun h2 x2 hx2 => ?_)
  refine T.sat_bind (load_sat fun h3 x3 hx3 => ?_)
  refine T.sat_bind (next_sat fun h4 x4 hx4 => T.sat_bind ?_)
  have hD : True := trivial
  repeat' (first
    | exact ⟨by omega, by omega, rfl⟩
    | refine T.sat_bind (load_sat fun _ _ _ => ?_)
    | refine T.sat_bind (word_sat fun _ _ _ => ?_)
    | refine T.sat_bind (find_sat fun _ _ _ => ?_)
    | refine T.sat_bind (next_sat fun _ _ _ => ?_)
    | refine T.sat_bind (store_sat hw fun _ => ?_)
    | refine T.sat_bind (set_sat hw fun _ => ?_)
    | refine T.sat_bind (retire_sat hw fun _ => ?_)
    | refine T.sat_bind (take_sat hw fun _ _ _ => ?_)
    | refine T.sat_bind (unlink_sat hg hw fun _ _ _ => ?_)
    | refine T.sat_cond (fun _ => ?_) (fun _ => ?_))
theorem gone2_sat (hg : got.length = N) (hn : n ≤ N) (hw : Wr ro s) {w r m : Int} {sd : Sid} {Q : Nat → RS → Unit → Prop} (hq : ∀ n', n < n' → n' ≤ N → Q n' s ()) : (gone2Tr w r sd c got held m).sat N (rule ro) n s Q := by
  unfold gone2Tr
  refine T.sat_bind (load_sat fun h1 x1 hx1 => ?_)
  refine T.sat_bind (T.sat_loop (fun n' s' _ => n < n' ∧ s' = s) ?_ _ _ _ _ (by omega) (by omega) ⟨by omega, rfl⟩)
  rintro n1 s1 v12 ⟨hI, rfl⟩ hn1
  unfold gone2L0Step goneC4Tr goneC5Tr
  dsimp only
  refine T.sat_cond (fun _ => T.sat_bind ?_) (fun _ => hq _ hI hn1)
  refine T.sat_bind (load_sat fun h2 x2 hx2 => ?_)
  refine T.sat_bind (next_sat fun h4 x4 hx4 => T.sat_bind ?_)
  have hD : True := trivial
  repeat' (first
    | exact ⟨by omega, by omega, rfl⟩
    | refine T.sat_bind (load_sat fun _ _ _ => ?_)
    | refine T.sat_bind (word_sat fun _ _ _ => ?_)
    | refine T.sat_bind (find_sat fun _ _ _ => ?_)
    | refine T.sat_bind (next_sat fun _ _ _ => ?_)
    | refine T.sat_bind (store_sat hw fun _ => ?_)
    | refine T.sat_bind (set_sat hw fun _ => ?_)
    | refine T.sat_bind (retire_sat hw fun _ => ?_)
    | refine T.sat_bind (take_sat hw fun _ _ _ => ?_)
    | refine T.sat_bind (unlink_sat hg hw fun _ _ _ => ?_)
    | refine T.sat_cond (fun _ => ?_) (fun _ => ?_))
theorem drop_sat (hg : got.length = N) (hN : N ≤ 1000) (hn : n ≤ N) (hr : ro = false) (hs : s.2 = []) (h0 : Dn s held) {m : Int} (hm : In64 m) : (dropTr m c got held).sat N (rule ro) n s QD := by
  unfold dropTr
  refine T.sat_bind (known1_sat fun r => ?_)
  refine T.sat_cond (fun _ => ⟨h0, sm0⟩) (fun _ => ?_)
  refine T.sat_bind (holdD_sat hg hN hn hr hs h0 (by simp) ⟨by simp, all1 hm⟩ fun n1 s1 x1 h1 h2 hD hw1 => ?_)
  refine T.sat_cond (fun _ => ⟨hD, sm0⟩) (fun hb => ?_)
  have hw := hw1 (by simpa using hb)
  refine T.sat_bind (set_sat hw fun h3 => ?_)
  refine T.sat_bind (gone1_sat hg (by omega) hw fun n4 h4 h5 => ?_)
  refine T.sat_bind (gone2_sat hg (by omega) hw fun n6 h6 h7 => ?_)
  refine T.sat_bind (load_sat fun h8 x8 hx8 => ?_)
  refine T.sat_bind (T.sat_loop (fun n' s' _ => s' = s1) ?_ _ _ _ _ (by omega) (by omega) rfl)
  rintro n9 s9 v14 rfl hn9
  unfold dropL0Step
  dsimp only
  refine T.sat_cond (fun _ => ?_) (fun _ => T.sat_bind (retire_sat hw fun _ => ⟨hD, sm0⟩))
  exact T.sat_bind (next_sat fun h10 x10 hx10 => T.sat_bind (retire_sat hw fun _ => ⟨by omega, rfl⟩))
end
end Go.Ax.Cd
