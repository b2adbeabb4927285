/- The package code by contracts (printed by wip/tools/con3.py). -/
import Derived.Test.YteoeolfcpmalfaaGreatDoorQ34
import Derived.Test.YteoeolfcpmalfaaGreatDoorRCodeSteps00
namespace Go.Ax.Cd
open Go.Proofs
set_option linter.unusedVariables false
set_option maxRecDepth 100000
abbrev lawStepsL0vs : List Vh := [.s (.e (.sl .int)), pm, .s (.ptr 1 0), .s (.e (.sl (.st .acc))), .s (.ptr 2 0), vb, vi, vi]
abbrev lawStepsL0os : List OSh := [.box [.e (.st .cfg)], .box [.e (.st .opn)], .box [.e (.st .res)]]
noncomputable abbrev lawStepsL0fin : Fin := ((Fin.one 0 Tryz.f5.ntmps (.exit 0) [2, 3, 4, 7, 9, 10] [.s (.e (.sl .int)), pm, .s (.ptr 1 0), .s (.e (.sl (.st .acc))), .s (.ptr 2 0), vb] [.box [.e (.st .cfg)], .box [.e (.st .opn)], .box [.e (.st .res)]]).or (Fin.one 0 Tryz.f5.ntmps .ret [6] [vb] []))
def lawStepsL0Step (v0 : List Int) (v3 : List Acc) (v5 : Bool) (v6 : Int) (v8 : Cfg) (v9 : Opn) (v10 : Res) (st : Int) : T ((Int) ⊕ (Unit ⊕ Unit)) :=
 let v7 := st
 bif decide (v7 < v6) then
 bif decide (v7 > Int.ofNat v0.length) then
 .ret (Sum.inr (Sum.inr (())))
 else
 bif decide (0 ≤ v7) && decide (v7 ≤ Int.ofNat v0.length) then
 (next_Tr v8 v9 (List.take v7.toNat v0)).bind fun x0 =>
 bif x0.2.2 then
 .ret (Sum.inr (Sum.inr (())))
 else
 bif inR v7 v3.length then
 bif !(x0.1.kind == (rdE (EK.st SN.acc) v3 v7).kind && (x0.1.at_ == (rdE (EK.st SN.acc) v3 v7).at_ && (x0.1.which == (rdE (EK.st SN.acc) v3 v7).which && (x0.1.ref == (rdE (EK.st SN.acc) v3 v7).ref && (x0.1.field == (rdE (EK.st SN.acc) v3 v7).field && (x0.1.value == (rdE (EK.st SN.acc) v3 v7).value && true)))))) then
 .ret (Sum.inr (Sum.inr (())))
 else
 .ret (Sum.inl (w64 (v7 + 1)))
 else
 .bot
 else
 .bot
 else
 .ret (Sum.inr (Sum.inl (())))
@[reducible] def lawStepsL0I : PIf (VhL lawStepsL0vs × OShL lawStepsL0os) lawStepsL0fin.Y where
  α := Unit ⊕ Unit
  tr x := T.loop (lawStepsL0Step x.1.1 x.1.2.2.2.1 x.1.2.2.2.2.2.1 x.1.2.2.2.2.2.2.1 x.2.1.1 x.2.2.1.1 x.2.2.2.1.1) FU x.1.2.2.2.2.2.2.2.1
  enc x a := match a with | Sum.inl (b) => Sum.inl (((x.1.1, (), (), x.1.2.2.2.1, (), x.1.2.2.2.2.2.1, ()), ((x.2.1.1, ()), (x.2.2.1.1, ()), (x.2.2.2.1.1, ()), ()))) | Sum.inr (b) => Sum.inr (((false, ()), ()))
theorem lawStepsL0_raw (sp_next_ : next__T) (sp_all_ : all__T) (sp_mayF : mayF_T) (sp_liveF : liveF_T) (sp_sameRes : sameRes_T) (v0 : List Int) (v3 : List Acc) (v5 : Bool) (v6 : Int) (v7 : Int) (v8 : Cfg) (v9 : Opn) (v10 : Res) : runW 0 Tryz.f5 0 [2, 3, 4, 7, 9, 10, 70, 71] lawStepsL0vs lawStepsL0os lawStepsL0fin [(12, next__C sp_next_), (16, all__C sp_all_), (11, mayF_C sp_mayF), (10, liveF_C sp_liveF), (14, sameRes_C sp_sameRes)] [] [] (((v0, (), (), v3, (), v5, v6, v7, ()), ((v8, ()), (v9, ()), (v10, ()), ())) : VhL lawStepsL0vs × OShL lawStepsL0os) = (bif decide (v7 < v6) then bif decide (v7 > Int.ofNat v0.length) then some (Sum.inr (Sum.inr ((false, ()), ()))) else bif decide (0 ≤ v7) && decide (v7 ≤ Int.ofNat v0.length) then (sp_next_ ((v8, v9, List.take v7.toNat v0, ()), ())).bind fun val => bif val.1.2.2.1 then some (Sum.inr (Sum.inr ((false, ()), ()))) else bif inR v7 v3.length then bif !(val.1.1.kind == (rdE (EK.st SN.acc) v3 v7).kind && (val.1.1.at_ == (rdE (EK.st SN.acc) v3 v7).at_ && (val.1.1.which == (rdE (EK.st SN.acc) v3 v7).which && (val.1.1.ref == (rdE (EK.st SN.acc) v3 v7).ref && (val.1.1.field == (rdE (EK.st SN.acc) v3 v7).field && (val.1.1.value == (rdE (EK.st SN.acc) v3 v7).value && true)))))) then some (Sum.inr (Sum.inr ((false, ()), ()))) else some (Sum.inl ((v0, (), (), v3, (), v5, v6, w64 (v7 + 1), ()), (v8, ()), (v9, ()), (v10, ()), ())) else none else none
else some (Sum.inr (Sum.inl ((v0, (), (), v3, (), v5, ()), (v8, ()), (v9, ()), (v10, ()), ())))) := by kernel_rfl
theorem lawStepsL0_ok : LOk Tryz.prog gl 0 (LCon.of Tryz.f5.ntmps [2, 3, 4, 7, 9, 10, 70, 71] lawStepsL0vs lawStepsL0os lawStepsL0fin (PIf.spec lawStepsL0I)) (getL (body Tryz.f5) 0) := by
  refine lwk (Lc := []) (nh := []) (G := [(12, next__C (PIf.spec next_I)), (16, all__C (PIf.spec all_I)), (11, mayF_C (PIf.spec mayFI)), (10, liveF_C (PIf.spec liveFI)), (14, sameRes_C (PIf.spec sameResI))]) (GOk.cons next__g next__ok (GOk.cons all__g all__ok (GOk.cons mayF_g mayF_ok (GOk.cons liveF_g liveF_ok (GOk.cons sameRes_g sameRes_ok (GOk.nil)))))) (noloopN (by kernel_rfl)) (Fin.or_ok (Fin.one_ok _ _ _ _) (Fin.one_ok _ _ _ _)) ?_
  rintro ⟨⟨v0, _, _, v3, _, v5, v6, v7, _⟩, ⟨⟨v8, _⟩, ⟨v9, _⟩, ⟨v10, _⟩, _⟩⟩ y hy
  refine ⟨_, loopP_ok (eX := fun (st : Int) => (let v7 := st; ((v0, (), (), v3, (), v5, v6, v7, ()), ((v8, ()), (v9, ()), (v10, ()), ())) : VhL lawStepsL0vs × OShL lawStepsL0os)) (body := lawStepsL0Step v0 v3 v5 v6 v8 v9 v10) (fun st => ?_) _ v7 y hy⟩
  revert st
  intro v7
  refine (lawStepsL0_raw (PIf.spec next_I) (PIf.spec all_I) (PIf.spec mayFI) (PIf.spec liveFI) (PIf.spec sameResI) v0 v3 v5 v6 v7 v8 v9 v10).trans ?_
  unfold lawStepsL0Step
  repeat' (first | refine cond_outP (fun _ => ?_) (fun _ => ?_) | (refine bindP (fun _ => ?_); try dsimp only [selim, cond_true, cond_false, Bool.not_true, Bool.not_false, one, none1, mI, next_I, all_I, mayFI, liveFI, sameResI]) | rfl)
def lawStepsTr (c : Cfg) (o : Opn) (got : List Int) : T (Bool) :=
 (liveFTr).bind fun x0 =>
 bif !x0 then
 .ret false
 else
 (mayFTr c got).bind fun x1 =>
 bif !x1 then
 .ret true
 else
 (all_Tr c o got).bind fun x2 =>
 (next_Tr c o got).bind fun x3 =>
 bif Int.ofNat x2.length == 0 then
 .bot
 else
 bif decide (Int.ofNat x2.length > w64 (Int.ofNat got.length + 1)) then
 .bot
 else
 bif !x3.2.2 then
 bif Int.ofNat x2.length != w64 (Int.ofNat got.length + 1) then
 .bot
 else
 bif x3.2.2 then
 bif decide (Int.ofNat x2.length > Int.ofNat got.length) then
 .ret false
 else
 (T.loop (lawStepsL0Step got x2 x3.2.2 (Int.ofNat x2.length) c o x3.2.1) 4611686018427387904 0).bind fun b4 => selim b4
 (fun x4 => bif !x3.2.2 then
 .ret true
 else
 bif decide (0 ≤ Int.ofNat x2.length) && decide (Int.ofNat x2.length ≤ Int.ofNat got.length) then
 (next_Tr c o (List.take (Int.ofNat x2.length).toNat got)).bind fun x5 =>
 bif x5.2.2 then
 (sameResTr x3.2.1 x5.2.1).bind fun x6 =>
 .ret x6
 else
 .ret false
 else
 .bot)
 (fun y4 => .ret false)
 else
 (T.loop (lawStepsL0Step got x2 x3.2.2 (Int.ofNat x2.length) c o x3.2.1) 4611686018427387904 0).bind fun b4 => selim b4
 (fun x4 => bif !x3.2.2 then
 .ret true
 else
 bif decide (0 ≤ Int.ofNat x2.length) && decide (Int.ofNat x2.length ≤ Int.ofNat got.length) then
 (next_Tr c o (List.take (Int.ofNat x2.length).toNat got)).bind fun x5 =>
 bif x5.2.2 then
 (sameResTr x3.2.1 x5.2.1).bind fun x6 =>
 .ret x6
 else
 .ret false
 else
 .bot)
 (fun y4 => .ret false)
 else
 bif x3.2.2 then
 bif decide (Int.ofNat x2.length > Int.ofNat got.length) then
 .ret false
 else
 (T.loop (lawStepsL0Step got x2 x3.2.2 (Int.ofNat x2.length) c o x3.2.1) 4611686018427387904 0).bind fun b4 => selim b4
 (fun x4 => bif !x3.2.2 then
 .ret true
 else
 bif decide (0 ≤ Int.ofNat x2.length) && decide (Int.ofNat x2.length ≤ Int.ofNat got.length) then
 (next_Tr c o (List.take (Int.ofNat x2.length).toNat got)).bind fun x5 =>
 bif x5.2.2 then
 (sameResTr x3.2.1 x5.2.1).bind fun x6 =>
 .ret x6
 else
 .ret false
 else
 .bot)
 (fun y4 => .ret false)
 else
 (T.loop (lawStepsL0Step got x2 x3.2.2 (Int.ofNat x2.length) c o x3.2.1) 4611686018427387904 0).bind fun b4 => selim b4
 (fun x4 => bif !x3.2.2 then
 .ret true
 else
 bif decide (0 ≤ Int.ofNat x2.length) && decide (Int.ofNat x2.length ≤ Int.ofNat got.length) then
 (next_Tr c o (List.take (Int.ofNat x2.length).toNat got)).bind fun x5 =>
 bif x5.2.2 then
 (sameResTr x3.2.1 x5.2.1).bind fun x6 =>
 .ret x6
 else
 .ret false
 else
 .bot)
 (fun y4 => .ret false)
@[reducible] def lawStepsI : PIf (VhL [.s (.e (.st .cfg)), .s (.e (.st .opn)), .s (.e (.sl .int))] × OShL []) (VhL [vb] × OShL []) where
  α := Bool
  tr x := lawStepsTr x.1.1 x.1.2.1 x.1.2.2.1
  enc x a := ((a, ()), ())
abbrev lawSteps_T : Type := VhL [.s (.e (.st .cfg)), .s (.e (.st .opn)), .s (.e (.sl .int))] × OShL [] → Option (VhL [vb] × OShL [])
noncomputable abbrev lawSteps_C (sp : lawSteps_T) : Con := Con.of [.s (.e (.st .cfg)), .s (.e (.st .opn)), .s (.e (.sl .int))] [] [vb] [] sp
theorem lawSteps_raw (sp_next_ : next__T) (sp_all_ : all__T) (sp_mayF : mayF_T) (sp_liveF : liveF_T) (sp_sameRes : sameRes_T) (sp_lawStepsL0 : VhL lawStepsL0vs × OShL lawStepsL0os → Option lawStepsL0fin.Y) (c : Cfg) (o : Opn) (got : List Int) : runN Tryz.f5 [.s (.e (.st .cfg)), .s (.e (.st .opn)), .s (.e (.sl .int))] [] [vb] [] [(12, next__C sp_next_), (16, all__C sp_all_), (11, mayF_C sp_mayF), (10, liveF_C sp_liveF), (14, sameRes_C sp_sameRes)] [(10, LCon.of Tryz.f5.ntmps [2, 3, 4, 7, 9, 10, 70, 71] lawStepsL0vs lawStepsL0os lawStepsL0fin sp_lawStepsL0)] [] (((c, o, got, ()), ()) : VhL [.s (.e (.st .cfg)), .s (.e (.st .opn)), .s (.e (.sl .int))] × OShL []) = ((sp_liveF ((), ())).bind fun val => bif !val.1.1 then some ((false, ()), ()) else (sp_mayF ((c, got, ()), ())).bind fun val => bif !val.1.1 then some ((true, ()), ()) else (sp_all_ ((c, o, got, ()), ())).bind fun val => (sp_next_ ((c, o, got, ()), ())).bind fun val_1 => bif Int.ofNat (List.length val.1.1) == 0 then none else bif decide (Int.ofNat (List.length val.1.1) > w64 (Int.ofNat got.length + 1)) then none else bif !val_1.1.2.2.1 then bif Int.ofNat (List.length val.1.1) != w64 (Int.ofNat got.length + 1) then none else bif val_1.1.2.2.1 then bif decide (Int.ofNat (List.length val.1.1) > Int.ofNat got.length) then some ((false, ()), ()) else (sp_lawStepsL0 ((got, (), (), val.1.1, (), val_1.1.2.2.1, Int.ofNat (List.length val.1.1), 0, ()), (c, ()), (o, ()), (val_1.1.2.1, ()), ())).bind fun val => selim val (fun val => bif !val.1.2.2.2.2.2.1 then some ((true, ()), ()) else bif decide (0 ≤ Int.ofNat (List.length val.1.2.2.2.1)) && decide (Int.ofNat (List.length val.1.2.2.2.1) ≤ Int.ofNat (List.length val.1.1)) then (sp_next_ ((val.2.1.1, val.2.2.1.1, List.take (Int.ofNat (List.length val.1.2.2.2.1)).toNat val.1.1, ()), ())).bind fun val_2 => bif val_2.1.2.2.1 then (sp_sameRes ((val.2.2.2.1.1, val_2.1.2.1, ()), ())).bind fun val => some ((val.1.1, ()), ()) else some ((false, ()), ()) else none) fun val => some ((val.1.1, ()), ()) else (sp_lawStepsL0 ((got, (), (), val.1.1, (), val_1.1.2.2.1, Int.ofNat (List.length val.1.1), 0, ()), (c, ()), (o, ()), (val_1.1.2.1, ()), ())).bind fun val => selim val (fun val => bif !val.1.2.2.2.2.2.1 then some ((true, ()), ()) else bif decide (0 ≤ Int.ofNat (List.length val.1.2.2.2.1)) && decide (Int.ofNat (List.length val.1.2.2.2.1) ≤ Int.ofNat (List.length val.1.1)) then (sp_next_ ((val.2.1.1, val.2.2.1.1, List.take (Int.ofNat (List.length val.1.2.2.2.1)).toNat val.1.1, ()), ())).bind fun val_2 => bif val_2.1.2.2.1 then (sp_sameRes ((val.2.2.2.1.1, val_2.1.2.1, ()), ())).bind fun val => some ((val.1.1, ()), ()) else some ((false, ()), ()) else none) fun val => some ((val.1.1, ()), ()) else bif val_1.1.2.2.1 then bif decide (Int.ofNat (List.length val.1.1) > Int.ofNat got.length) then some ((false, ()), ()) else (sp_lawStepsL0 ((got, (), (), val.1.1, (), val_1.1.2.2.1, Int.ofNat (List.length val.1.1), 0, ()), (c, ()), (o, ()), (val_1.1.2.1, ()), ())).bind fun val => selim val (fun val => bif !val.1.2.2.2.2.2.1 then some ((true, ()), ()) else bif decide (0 ≤ Int.ofNat (List.length val.1.2.2.2.1)) && decide (Int.ofNat (List.length val.1.2.2.2.1) ≤ Int.ofNat (List.length val.1.1)) then (sp_next_ ((val.2.1.1, val.2.2.1.1, List.take (Int.ofNat (List.length val.1.2.2.2.1)).toNat val.1.1, ()), ())).bind fun val_2 => bif val_2.1.2.2.1 then (sp_sameRes ((val.2.2.2.1.1, val_2.1.2.1, ()), ())).bind fun val => some ((val.1.1, ()), ()) else some ((false, ()), ()) else none) fun val => some ((val.1.1, ()), ()) else (sp_lawStepsL0 ((got, (), (), val.1.1, (), val_1.1.2.2.1, Int.ofNat (List.length val.1.1), 0, ()), (c, ()), (o, ()), (val_1.1.2.1, ()), ())).bind fun val => selim val (fun val => bif !val.1.2.2.2.2.2.1 then some ((true, ()), ()) else bif decide (0 ≤ Int.ofNat (List.length val.1.2.2.2.1)) && decide (Int.ofNat (List.length val.1.2.2.2.1) ≤ Int.ofNat (List.length val.1.1)) then (sp_next_ ((val.2.1.1, val.2.2.1.1, List.take (Int.ofNat (List.length val.1.2.2.2.1)).toNat val.1.1, ()), ())).bind fun val_2 => bif val_2.1.2.2.1 then (sp_sameRes ((val.2.2.2.1.1, val_2.1.2.1, ()), ())).bind fun val => some ((val.1.1, ()), ()) else some ((false, ()), ()) else none) fun val => some ((val.1.1, ()), ())) := by kernel_rfl
theorem lawSteps_ok : Sound Tryz.prog gl 5 (lawSteps_C (PIf.spec lawStepsI)) := by
  refine cnk (fn := Tryz.f5) (G := [(12, next__C (PIf.spec next_I)), (16, all__C (PIf.spec all_I)), (11, mayF_C (PIf.spec mayFI)), (10, liveF_C (PIf.spec liveFI)), (14, sameRes_C (PIf.spec sameResI))]) (GOk.cons next__g next__ok (GOk.cons all__g all__ok (GOk.cons mayF_g mayF_ok (GOk.cons liveF_g liveF_ok (GOk.cons sameRes_g sameRes_ok (GOk.nil)))))) (by kernel_rfl) (by kernel_rfl) (Lc := [(10, LCon.of Tryz.f5.ntmps [2, 3, 4, 7, 9, 10, 70, 71] lawStepsL0vs lawStepsL0os lawStepsL0fin (PIf.spec lawStepsL0I))]) (nh := []) (lcok (bs := [getL (body Tryz.f5) 0]) (by kernel_rfl) ⟨lone_ok (q := (10, LCon.of Tryz.f5.ntmps [2, 3, 4, 7, 9, 10, 70, 71] lawStepsL0vs lawStepsL0os lawStepsL0fin (PIf.spec lawStepsL0I))) (by kernel_rfl) lawStepsL0_ok, trivial⟩) ?_
  rintro ⟨⟨c, o, got, _⟩, _⟩
  refine (lawSteps_raw (PIf.spec next_I) (PIf.spec all_I) (PIf.spec mayFI) (PIf.spec liveFI) (PIf.spec sameResI) (PIf.spec lawStepsL0I) c o got).trans ?_
  show _ = ((lawStepsTr c o got).val).map (lawStepsI.enc ((c, o, got, ()), ()))
  unfold lawStepsTr
  refine bindP (fun x0 => ?_)
  dsimp only [selim, cond_true, cond_false, Bool.not_true, Bool.not_false, one, none1, mI, next_I, all_I, mayFI, liveFI, sameResI, lawStepsL0I]
  refine cond_outP (fun _ => ?_) (fun _ => ?_)
  · rfl
  · refine bindP (fun x1 => ?_)
    dsimp only [selim, cond_true, cond_false, Bool.not_true, Bool.not_false, one, none1, mI, next_I, all_I, mayFI, liveFI, sameResI, lawStepsL0I]
    refine cond_outP (fun _ => ?_) (fun _ => ?_)
    · rfl
    · refine bindP (fun x2 => ?_)
      dsimp only [selim, cond_true, cond_false, Bool.not_true, Bool.not_false, one, none1, mI, next_I, all_I, mayFI, liveFI, sameResI, lawStepsL0I]
      refine bindP (fun x3 => ?_)
      dsimp only [selim, cond_true, cond_false, Bool.not_true, Bool.not_false, one, none1, mI, next_I, all_I, mayFI, liveFI, sameResI, lawStepsL0I]
      refine cond_outP (fun _ => ?_) (fun _ => ?_)
      · rfl
      · refine cond_outP (fun _ => ?_) (fun _ => ?_)
        · rfl
        · refine cond_outP (fun _ => ?_) (fun _ => ?_)
          · refine cond_outP (fun _ => ?_) (fun _ => ?_)
            · rfl
            · refine cond_outP (fun _ => ?_) (fun _ => ?_)
              · refine cond_outP (fun _ => ?_) (fun _ => ?_)
                · rfl
                · refine bindP (fun b4 => ?_)
                  rcases b4 with x4 | y4
                  · dsimp only [selim, cond_true, cond_false, Bool.not_true, Bool.not_false, one, none1, mI, next_I, all_I, mayFI, liveFI, sameResI, lawStepsL0I]
                    try (first | refine (cond_t rfl).trans ?_ | refine (cond_f rfl).trans ?_)
                    refine cond_outP (fun _ => ?_) (fun _ => ?_)
                    · rfl
                    · refine cond_outP (fun _ => ?_) (fun _ => ?_)
                      · refine bindP (fun x5 => ?_)
                        dsimp only [selim, cond_true, cond_false, Bool.not_true, Bool.not_false, one, none1, mI, next_I, all_I, mayFI, liveFI, sameResI, lawStepsL0I]
                        refine cond_outP (fun _ => ?_) (fun _ => ?_)
                        · refine bindP (fun x6 => ?_)
                          dsimp only [selim, cond_true, cond_false, Bool.not_true, Bool.not_false, one, none1, mI, next_I, all_I, mayFI, liveFI, sameResI, lawStepsL0I]
                          rfl
                        · rfl
                      · rfl
                  · dsimp only [selim, cond_true, cond_false, Bool.not_true, Bool.not_false, one, none1, mI, next_I, all_I, mayFI, liveFI, sameResI, lawStepsL0I]
                    try (first | refine (cond_t rfl).trans ?_ | refine (cond_f rfl).trans ?_)
                    rfl
              · refine bindP (fun b4 => ?_)
                rcases b4 with x4 | y4
                · dsimp only [selim, cond_true, cond_false, Bool.not_true, Bool.not_false, one, none1, mI, next_I, all_I, mayFI, liveFI, sameResI, lawStepsL0I]
                  try (first | refine (cond_t rfl).trans ?_ | refine (cond_f rfl).trans ?_)
                  refine cond_outP (fun _ => ?_) (fun _ => ?_)
                  · rfl
                  · refine cond_outP (fun _ => ?_) (fun _ => ?_)
                    · refine bindP (fun x5 => ?_)
                      dsimp only [selim, cond_true, cond_false, Bool.not_true, Bool.not_false, one, none1, mI, next_I, all_I, mayFI, liveFI, sameResI, lawStepsL0I]
                      refine cond_outP (fun _ => ?_) (fun _ => ?_)
                      · refine bindP (fun x6 => ?_)
                        dsimp only [selim, cond_true, cond_false, Bool.not_true, Bool.not_false, one, none1, mI, next_I, all_I, mayFI, liveFI, sameResI, lawStepsL0I]
                        rfl
                      · rfl
                    · rfl
                · dsimp only [selim, cond_true, cond_false, Bool.not_true, Bool.not_false, one, none1, mI, next_I, all_I, mayFI, liveFI, sameResI, lawStepsL0I]
                  try (first | refine (cond_t rfl).trans ?_ | refine (cond_f rfl).trans ?_)
                  rfl
          · refine cond_outP (fun _ => ?_) (fun _ => ?_)
            · refine cond_outP (fun _ => ?_) (fun _ => ?_)
              · rfl
              · refine bindP (fun b4 => ?_)
                rcases b4 with x4 | y4
                · dsimp only [selim, cond_true, cond_false, Bool.not_true, Bool.not_false, one, none1, mI, next_I, all_I, mayFI, liveFI, sameResI, lawStepsL0I]
                  try (first | refine (cond_t rfl).trans ?_ | refine (cond_f rfl).trans ?_)
                  refine cond_outP (fun _ => ?_) (fun _ => ?_)
                  · rfl
                  · refine cond_outP (fun _ => ?_) (fun _ => ?_)
                    · refine bindP (fun x5 => ?_)
                      dsimp only [selim, cond_true, cond_false, Bool.not_true, Bool.not_false, one, none1, mI, next_I, all_I, mayFI, liveFI, sameResI, lawStepsL0I]
                      refine cond_outP (fun _ => ?_) (fun _ => ?_)
                      · refine bindP (fun x6 => ?_)
                        dsimp only [selim, cond_true, cond_false, Bool.not_true, Bool.not_false, one, none1, mI, next_I, all_I, mayFI, liveFI, sameResI, lawStepsL0I]
                        rfl
                      · rfl
                    · rfl
                · dsimp only [selim, cond_true, cond_false, Bool.not_true, Bool.not_false, one, none1, mI, next_I, all_I, mayFI, liveFI, sameResI, lawStepsL0I]
                  try (first | refine (cond_t rfl).trans ?_ | refine (cond_f rfl).trans ?_)
                  rfl
            · refine bindP (fun b4 => ?_)
              rcases b4 with x4 | y4
              · dsimp only [selim, cond_true, cond_false, Bool.not_true, Bool.not_false, one, none1, mI, next_I, all_I, mayFI, liveFI, sameResI, lawStepsL0I]
                try (first | refine (cond_t rfl).trans ?_ | refine (cond_f rfl).trans ?_)
                refine cond_outP (fun _ => ?_) (fun _ => ?_)
                · rfl
                · refine cond_outP (fun _ => ?_) (fun _ => ?_)
                  · refine bindP (fun x5 => ?_)
                    dsimp only [selim, cond_true, cond_false, Bool.not_true, Bool.not_false, one, none1, mI, next_I, all_I, mayFI, liveFI, sameResI, lawStepsL0I]
                    refine cond_outP (fun _ => ?_) (fun _ => ?_)
                    · refine bindP (fun x6 => ?_)
                      dsimp only [selim, cond_true, cond_false, Bool.not_true, Bool.not_false, one, none1, mI, next_I, all_I, mayFI, liveFI, sameResI, lawStepsL0I]
                      rfl
                    · rfl
                  · rfl
              · dsimp only [selim, cond_true, cond_false, Bool.not_true, Bool.not_false, one, none1, mI, next_I, all_I, mayFI, liveFI, sameResI, lawStepsL0I]
                try (first | refine (cond_t rfl).trans ?_ | refine (cond_f rfl).trans ?_)
                rfl
end Go.Ax.Cd
/- CodeSteps, in plain Lean. -/
namespace Go.Ax.Cd
set_option linter.unusedVariables false
theorem steps_loop {c : Cfg} {o : Opn} {got : List Int} {d : List Acc} {r : Res} {fl : Bool} (hN : got.length ≤ 1000) (hL : d.length ≤ got.length + 1) (hst : ∀ i, i < d.length → goTr c o (got.take i) = .ret (d.take (i + 1), rz, false)) :
    ∀ (j i f : Nat), i + j = d.length → j < f → T.loop (lawStepsL0Step got d fl (Int.ofNat d.length) c o r) f (i : Int) = .ret (.inl ()) := by
  intro j
  induction j with
  | zero =>
    intro i f hi hf
    obtain ⟨f, rfl⟩ : ∃ q, f = q + 1 := ⟨f - 1, by omega⟩
    have es : lawStepsL0Step got d fl (Int.ofNat d.length) c o r (i : Int) = .ret (.inr (.inl ())) := by
      unfold lawStepsL0Step
      dsimp only
      rw [decide_eq_false (by simp; omega), cond_false]
    rw [T.loop, es]
    rfl
  | succ j ih =>
    intro i f hi hf
    obtain ⟨f, rfl⟩ : ∃ q, f = q + 1 := ⟨f - 1, by omega⟩
    have hlt : i < d.length := by omega
    have e0 : (d.take (i + 1)).length = i + 1 := by simp; omega
    have e1 : inR (i : Int) d.length = true := by simp [inR]; omega
    have e2 : w64 ((i : Int) + 1) = ((i + 1 : Nat) : Int) := by rw [w64_id] <;> omega
    have e3 := next_okF (hst i hlt) (by omega) (by omega)
    have e4 : rdE (EK.st SN.acc) (d.take (i + 1)) (((d.take (i + 1)).length - 1 : Nat) : Int) = rdE (EK.st SN.acc) d (i : Int) := by
      rw [e0]
      simp [rdE, rd, hlt]
    rw [e4] at e3
    have es : lawStepsL0Step got d fl (Int.ofNat d.length) c o r (i : Int) = .ret (.inl ((i + 1 : Nat) : Int)) := by
      unfold lawStepsL0Step
      dsimp only
      rw [decide_eq_true (by simp; omega), cond_true, decide_eq_false (by simp; omega), cond_false]
      have e5 : (decide (0 ≤ (i : Int)) && decide ((i : Int) ≤ Int.ofNat got.length)) = true := by simp; omega
      rw [e5, cond_true, Int.toNat_natCast, e3]
      simp only [T.bind, cond_false, e1, cond_true, beq_self_eq_true, Bool.and_true, Bool.not_true, e2]
    rw [T.loop, es]
    exact ih (i + 1) f (by omega) (by omega)
theorem run_cases {c : Cfg} {o : Opn} {got : List Int} (hN : got.length ≤ 1000) (hx : ∀ x ∈ got, In64 x) (ha : In64 o.a) (hb : In64 o.b) :
    (∃ r d, (runTr c o got).exec got [] = .ok r d ∧ 0 < d.length ∧ d.length ≤ got.length ∧ Sm r) ∨ (∃ d, (runTr c o got).exec got [] = .stop d ∧ d.length = got.length + 1) := by
  obtain ⟨ro, hro⟩ : ∃ ro : Bool, ¬ (o.kind = 6 ∨ o.kind = 7) → ro = false := ⟨false, fun _ => rfl⟩
  rcases run_exec (c := c) (ro := ro) rfl hN hx ha hb hro with ⟨r, d, b, h1, h2, h3, h4⟩ | ⟨d, s', h1, h2, h3⟩
  · refine .inl ⟨r, d, h1, ?_, h3, h4⟩
    cases d with
    | nil => simp [ruled] at h2
    | cons a l => simp
  · exact .inr ⟨d, h1, h3⟩
theorem lawSteps_true {c : Cfg} {o : Opn} {got : List Int} (hx : ∀ x ∈ got, In64 x) (ha : In64 o.a) (hb : In64 o.b) : (lawStepsTr c o got).val = some true := by
  unfold lawStepsTr
  rw [T.of_val live_ok]
  simp only [T.bind, Bool.not_true, cond_false]
  obtain ⟨b, hm, h200⟩ := may_ok c got
  rw [hm]
  simp only [T.bind]
  cases b with
  | false => rfl
  | true =>
    have hN := h200 rfl
    simp only [Bool.not_true, cond_false]
    have w1 : w64 (Int.ofNat got.length + 1) = ((got.length + 1 : Nat) : Int) := by
      rw [show Int.ofNat got.length + 1 = ((got.length + 1 : Nat) : Int) by simp]
      rw [w64_id] <;> omega
    rcases run_cases (c := c) (o := o) (by omega) hx ha hb with ⟨r, d, h1, h0, h3, h4⟩ | ⟨d, h1, h3⟩
    · have hgo := go_ok h1
      have hst : ∀ i, i < d.length → goTr c o (got.take i) = .ret (d.take (i + 1), rz, false) := fun i hi => by
        have := (run_take (c := c) (o := o) (got := got) (by omega) hx ha hb (K := i) (by omega)).1 r d h1
        rw [if_neg (by omega)] at this
        exact go_stop this
      have hend : goTr c o (got.take d.length) = .ret (d, r, true) := by
        have := (run_take (c := c) (o := o) (got := got) (by omega) hx ha hb (K := d.length) h3).1 r d h1
        rw [if_pos (by omega)] at this
        exact go_ok this
      have hl := steps_loop (r := r) (fl := true) (by omega) (by omega) hst d.length 0 4611686018427387904 (by omega) (by omega)
      rw [show ((0 : Nat) : Int) = 0 from rfl] at hl
      rw [all_ok hgo, next_okT hgo]
      simp only [T.bind]
      have c1 : (Int.ofNat d.length == 0) = false := beq_false_of_ne (fun h => by have h9 : (d.length : Int) = 0 := h; omega)
      have c2 : decide (Int.ofNat d.length > w64 (Int.ofNat got.length + 1)) = false := by rw [w1]; simp; omega
      have c3 : decide (Int.ofNat d.length > Int.ofNat got.length) = false := by simp; omega
      have c4 : (decide (0 ≤ Int.ofNat d.length) && decide (Int.ofNat d.length ≤ Int.ofNat got.length)) = true := by simp; omega
      rw [c1, c2]
      simp only [cond_false, Bool.not_true, cond_true, c3, hl, T.bind, selim, c4]
      rw [show (Int.ofNat d.length).toNat = d.length from rfl, next_okT hend]
      simp only [T.bind, cond_true, sameRes_refl h4]
      rfl
    · have hgo := go_stop h1
      have hst : ∀ i, i < d.length → goTr c o (got.take i) = .ret (d.take (i + 1), rz, false) := fun i hi => by
        have := (run_take (c := c) (o := o) (got := got) (by omega) hx ha hb (K := i) (by omega)).2 d h1
        exact go_stop this
      have hl := steps_loop (r := rz) (fl := false) (by omega) (by omega) hst d.length 0 4611686018427387904 (by omega) (by omega)
      rw [show ((0 : Nat) : Int) = 0 from rfl] at hl
      rw [all_ok hgo, next_okF hgo (by omega) (by omega)]
      simp only [T.bind]
      have c1 : (Int.ofNat d.length == 0) = false := beq_false_of_ne (fun h => by have h9 : (d.length : Int) = 0 := h; omega)
      have c2 : decide (Int.ofNat d.length > w64 (Int.ofNat got.length + 1)) = false := by rw [w1]; simp; omega
      have c3 : (Int.ofNat d.length != w64 (Int.ofNat got.length + 1)) = false := by rw [w1, h3]; simp
      rw [c1, c2]
      simp only [cond_false, Bool.not_false, cond_true, c3, hl, T.bind, selim]
      rfl
end Go.Ax.Cd
