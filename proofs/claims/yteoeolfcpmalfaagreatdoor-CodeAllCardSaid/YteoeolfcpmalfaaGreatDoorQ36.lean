/- Merged. -/
import Derived.Test.YteoeolfcpmalfaaGreatDoorQ30
import Derived.Test.YteoeolfcpmalfaaGreatDoorQ29
namespace Go.Ax.Cd
open Go.Proofs
set_option linter.unusedVariables false
set_option maxRecDepth 100000
abbrev none1 (u : Unit) : VhL [] := ()
@[reducible] def plainFI : PIf (VhL [] × OShL []) (VhL [.s (.e (.st .cfg))] × OShL []) where
 α := Cfg
 tr x := T.ret ((Cfg.mk 2 2 2 2 2))
 enc x a := ((a, ()), ())
abbrev plainF_T : Type := VhL [] × OShL [] → Option (VhL [.s (.e (.st .cfg))] × OShL [])
noncomputable abbrev plainF_C (sp : plainF_T) : Con := Con.of [] [] [.s (.e (.st .cfg))] [] sp
noncomputable abbrev plainFS : plainF_T := PIf.spec plainFI
theorem plainF_raw : runN Tryz.f20 [] [] [.s (.e (.st .cfg))] [] [] [] [] (((), ()) : VhL [] × OShL []) = (some ((Cfg.mk 2 2 2 2 2, ()), ())) := by kernel_rfl
theorem plainF_ok : Sound Tryz.prog gl 20 (plainF_C plainFS) := by
 refine cnk (fn := Tryz.f20) (G := []) (GOk.nil) (by kernel_rfl) (by kernel_rfl) (Lc := []) (nh := []) (noloopN (by kernel_rfl)) ?_
 rintro ⟨_, _⟩
 refine (plainF_raw ..).trans ?_
 rfl
theorem plainF_k {G : List (Nat × Con)} (h : GOk Tryz.prog gl G) : GOk Tryz.prog gl ((20, plainF_C plainFS) :: G) := GOk.cons ⟨Tryz.f20, body Tryz.f20, by kernel_rfl, by kernel_rfl, by kernel_rfl⟩ plainF_ok h
def mayFTr (c : Cfg) (got : List Int) : T (Bool) :=
 bif decide (c.ids ≥ 1) then
 bif decide (c.ids ≤ 64) then
 bif decide (c.edgeIds ≥ 1) then
 bif decide (c.edgeIds ≤ 64) then
 bif decide (c.nodes ≥ 1) then
 bif decide (c.nodes ≤ 64) then
 bif decide (c.edges ≥ 1) then
 bif decide (c.edges ≤ 64) then
 bif decide (c.props ≥ 1) then
 bif decide (c.props ≤ 64) then
 .ret (decide (Int.ofNat got.length ≤ 200))
 else
 .ret false
 else
 .ret false
 else
 .ret false
 else
 .ret false
 else
 .ret false
 else
 .ret false
 else
 .ret false
 else
 .ret false
 else
 .ret false
 else
 .ret false
@[reducible] def mayFI : PIf (VhL [.s (.e (.st .cfg)), .s (.e (.sl .int))] × OShL []) (VhL [vb] × OShL []) where
 α := Bool
 tr x := mayFTr x.1.1 x.1.2.1
 enc x a := ((a, ()), ())
abbrev mayF_T : Type := VhL [.s (.e (.st .cfg)), .s (.e (.sl .int))] × OShL [] → Option (VhL [vb] × OShL [])
noncomputable abbrev mayF_C (sp : mayF_T) : Con := Con.of [.s (.e (.st .cfg)), .s (.e (.sl .int))] [] [vb] [] sp
noncomputable abbrev mayFS : mayF_T := PIf.spec mayFI
theorem mayF_raw (c : Cfg) (got : List Int) : runN Tryz.f11 [.s (.e (.st .cfg)), .s (.e (.sl .int))] [] [vb] [] [] [] [] (((c, got, ()), ()) : VhL [.s (.e (.st .cfg)), .s (.e (.sl .int))] × OShL []) = (bif decide (c.ids ≥ 1) then bif decide (c.ids ≤ 64) then bif decide (c.edgeIds ≥ 1) then bif decide (c.edgeIds ≤ 64) then bif decide (c.nodes ≥ 1) then bif decide (c.nodes ≤ 64) then bif decide (c.edges ≥ 1) then bif decide (c.edges ≤ 64) then bif decide (c.props ≥ 1) then bif decide (c.props ≤ 64) then some ((decide (Int.ofNat got.length ≤ 200), ()), ()) else some ((false, ()), ()) else some ((false, ()), ()) else some ((false, ()), ()) else some ((false, ()), ()) else some ((false, ()), ()) else some ((false, ()), ()) else some ((false, ()), ()) else some ((false, ()), ()) else some ((false, ()), ())
else some ((false, ()), ())) := by kernel_rfl
theorem mayF_ok : Sound Tryz.prog gl 11 (mayF_C mayFS) := by
 refine cnk (fn := Tryz.f11) (G := []) (GOk.nil) (by kernel_rfl) (by kernel_rfl) (Lc := []) (nh := []) (noloopN (by kernel_rfl)) ?_
 rintro ⟨⟨c, got, _⟩, _⟩
 refine (mayF_raw ..).trans ?_
 show _ = ((mayFTr c got).val).map _
 unfold mayFTr
 repeat' (first|refine cond_outP (fun _ =>?_) (fun _ =>?_) | rfl)
def liveFTr : T (Bool) :=
 (next_Tr (Cfg.mk 2 2 2 2 2) (Opn.mk 1 0 0 0 0) []).bind fun x1 =>
 (next_Tr (Cfg.mk 2 2 2 2 2) (Opn.mk 1 0 0 0 0) [0]).bind fun x3 =>
 (next_Tr (Cfg.mk 2 2 2 2 2) (Opn.mk 0 0 0 0 0) [0, 0]).bind fun x5 =>
 bif x1.1.kind == 1 && (x1.1.at_ == 0 && (x1.1.which == 0 && (x1.1.ref == 0 && (x1.1.field == 0 && (x1.1.value == 0 && true))))) then
 bif !x1.2.2 then
 bif x3.1.kind == 5 && (x3.1.at_ == 0 && (x3.1.which == 0 && (x3.1.ref == 0 && (x3.1.field == 0 && (x3.1.value == 0 && true))))) then
 bif !x3.2.2 then
 bif x5.2.2 then
 .ret (x5.2.1.err == 1)
 else
 .ret false
 else
 .ret false
 else
 .ret false
 else
 .ret false
 else
 .ret false
@[reducible] def liveFI : PIf (VhL [] × OShL []) (VhL [vb] × OShL []) where
 α := Bool
 tr x := liveFTr 
 enc x a := ((a, ()), ())
abbrev liveF_T : Type := VhL [] × OShL [] → Option (VhL [vb] × OShL [])
noncomputable abbrev liveF_C (sp : liveF_T) : Con := Con.of [] [] [vb] [] sp
noncomputable abbrev liveFS : liveF_T := PIf.spec liveFI
theorem liveF_raw (p0 : next__T) (p1 : plainF_T) : runN Tryz.f10 [] [] [vb] [] [(12, next__C p0), (20, plainF_C p1)] [] [] (((), ()) : VhL [] × OShL []) = ((p1 ((), ())).bind fun z => (p0 ((z.1.1, Opn.mk 1 0 0 0 0, [], ()), ())).bind fun z => (p1 ((), ())).bind fun z1 => (p0 ((z1.1.1, Opn.mk 1 0 0 0 0, [0], ()), ())).bind fun z2 => (p1 ((), ())).bind fun z3 => (p0 ((z3.1.1, Opn.mk 0 0 0 0 0, [0, 0], ()), ())).bind fun z4 => bif z.1.1.kind == 1 && (z.1.1.at_ == 0 && (z.1.1.which == 0 && (z.1.1.ref == 0 && (z.1.1.field == 0 && (z.1.1.value == 0 && true))))) then bif !z.1.2.2.1 then bif z2.1.1.kind == 5 && (z2.1.1.at_ == 0 && (z2.1.1.which == 0 && (z2.1.1.ref == 0 && (z2.1.1.field == 0 && (z2.1.1.value == 0 && true))))) then bif !z2.1.2.2.1 then bif z4.1.2.2.1 then some ((z4.1.2.1.err == 1, ()), ()) else some ((false, ()), ()) else some ((false, ()), ()) else some ((false, ()), ()) else some ((false, ()), ()) else some ((false, ()), ())) := by kernel_rfl
theorem liveF_ok : Sound Tryz.prog gl 10 (liveF_C liveFS) := by
 refine cnk (fn := Tryz.f10) (G := [(12, next__C next_S), (20, plainF_C plainFS)]) (next__k (plainF_k (GOk.nil))) (by kernel_rfl) (by kernel_rfl) (Lc := []) (nh := []) (noloopN (by kernel_rfl)) ?_
 rintro ⟨_, _⟩
 refine (liveF_raw ..).trans ?_
 show _ = ((liveFTr ).val).map _
 unfold liveFTr
 repeat' (first|refine cond_outP (fun _ =>?_) (fun _ =>?_)|(refine (retP (by with_reducible rfl)).trans ?_; try dsimp only [selim, cond_true, cond_false, Bool.not_true, Bool.not_false, one, none1, mI, next_I, plainFI])|(refine bindP (fun _ =>?_); try dsimp only [selim, cond_true, cond_false, Bool.not_true, Bool.not_false, one, none1, mI, next_I, plainFI]) | rfl)
abbrev samePrL0vs : List Vh := [.s (.e (.sl (.st .pr))), .s (.e (.sl (.st .pr))), vi, vi]
abbrev samePrL0os : List OSh := []
noncomputable abbrev samePrL0fin : Fin := ((Fin.one 0 Tryz.f23.ntmps (.exit 0) [] [] []).or (Fin.one 0 Tryz.f23.ntmps .ret [4] [vb] []))
noncomputable abbrev samePrL0Q (sp : VhL samePrL0vs × OShL samePrL0os → Option samePrL0fin.Y) : LCon := LCon.of Tryz.f23.ntmps [0, 1, 12, 13] samePrL0vs samePrL0os samePrL0fin sp
def samePrL0Step (v0 v1 : List Pr) (v2 st : Int) : T ((Int) ⊕ (Unit ⊕ Unit)) :=
 let v3 := st
 bif decide (v3 < v2) then
 bif inR v3 v0.length then
 bif inR v3 v1.length then
 bif !((rdE (EK.st SN.pr) v0 v3).k == (rdE (EK.st SN.pr) v1 v3).k && ((rdE (EK.st SN.pr) v0 v3).v == (rdE (EK.st SN.pr) v1 v3).v && true)) then
 .ret (Sum.inr (Sum.inr (())))
 else
 .ret (Sum.inl (w64 (v3 + 1)))
 else
 .bot
 else
 .bot
 else
 .ret (Sum.inr (Sum.inl (())))
@[reducible] def samePrL0I : PIf (VhL samePrL0vs × OShL samePrL0os) samePrL0fin.Y where
 α := Unit ⊕ Unit
 tr x := T.loop (samePrL0Step x.1.1 x.1.2.1 x.1.2.2.1) FU x.1.2.2.2.1
 enc x a := match a with | Sum.inl (b) => Sum.inl (((), ())) | Sum.inr (b) => Sum.inr (((false, ()), ()))
theorem samePrL0_raw (v0 v1 : List Pr) (v2 v3 : Int) : runW 0 Tryz.f23 0 [0, 1, 12, 13] samePrL0vs samePrL0os samePrL0fin [] [] [] (((v0, v1, v2, v3, ()), ()) : VhL samePrL0vs × OShL samePrL0os) = (bif decide (v3 < v2) then bif inR v3 v0.length then bif inR v3 v1.length then bif !((rdE (EK.st SN.pr) v0 v3).k == (rdE (EK.st SN.pr) v1 v3).k && ((rdE (EK.st SN.pr) v0 v3).v == (rdE (EK.st SN.pr) v1 v3).v && true)) then some (Sum.inr (Sum.inr ((false, ()), ()))) else some (Sum.inl ((v0, v1, v2, w64 (v3 + 1), ()), ())) else none else none
else some (Sum.inr (Sum.inl ((), ())))) := by kernel_rfl
theorem samePrL0_ok : LOk Tryz.prog gl 0 (samePrL0Q (PIf.spec samePrL0I)) (getL (body Tryz.f23) 0) := by
 refine lwk (Lc := []) (nh := []) (G := []) (GOk.nil) (noloopN (by kernel_rfl)) (Fin.or_ok (Fin.one_ok _ _ _ _) (Fin.one_ok _ _ _ _)) ?_
 rintro ⟨⟨v0, v1, v2, v3, _⟩, _⟩ y hy
 refine ⟨_, loopP_ok (eX := fun (st : Int) => (let v3 := st; ((v0, v1, v2, v3, ()), ()) : VhL samePrL0vs × OShL samePrL0os)) (body := samePrL0Step v0 v1 v2) (fun st =>?_) _ v3 y hy⟩
 revert st
 intro v3
 refine (samePrL0_raw ..).trans ?_
 unfold samePrL0Step
 repeat' (first|refine cond_outP (fun _ =>?_) (fun _ =>?_) | rfl)
def samePrTr (a b : List Pr) : T (Bool) :=
 bif Int.ofNat a.length != Int.ofNat b.length then
 .ret false
 else
 (T.loop (samePrL0Step a b (Int.ofNat a.length)) 4611686018427387904 0).bind fun b0 => selim b0
 (fun x0 => .ret true)
 (fun y0 => .ret false)
@[reducible] def samePrI : PIf (VhL [.s (.e (.sl (.st .pr))), .s (.e (.sl (.st .pr)))] × OShL []) (VhL [vb] × OShL []) where
 α := Bool
 tr x := samePrTr x.1.1 x.1.2.1
 enc x a := ((a, ()), ())
abbrev samePr_T : Type := VhL [.s (.e (.sl (.st .pr))), .s (.e (.sl (.st .pr)))] × OShL [] → Option (VhL [vb] × OShL [])
noncomputable abbrev samePr_C (sp : samePr_T) : Con := Con.of [.s (.e (.sl (.st .pr))), .s (.e (.sl (.st .pr)))] [] [vb] [] sp
noncomputable abbrev samePrS : samePr_T := PIf.spec samePrI
theorem samePr_raw (p0 : VhL samePrL0vs × OShL samePrL0os → Option samePrL0fin.Y) (a b : List Pr) : runN Tryz.f23 [.s (.e (.sl (.st .pr))), .s (.e (.sl (.st .pr)))] [] [vb] [] [] [(4, samePrL0Q p0)] [] (((a, b, ()), ()) : VhL [.s (.e (.sl (.st .pr))), .s (.e (.sl (.st .pr)))] × OShL []) = (bif Int.ofNat a.length != Int.ofNat b.length then some ((false, ()), ()) else (p0 ((a, b, Int.ofNat a.length, 0, ()), ())).bind fun z => selim z (fun z => some ((true, ()), ())) fun z => some ((z.1.1, ()), ())) := by kernel_rfl
theorem samePr_ok : Sound Tryz.prog gl 23 (samePr_C samePrS) := by
 refine cnk (fn := Tryz.f23) (G := []) (GOk.nil) (by kernel_rfl) (by kernel_rfl) (Lc := [(4, samePrL0Q (PIf.spec samePrL0I))]) (nh := []) (lcok (bs := [getL (body Tryz.f23) 0]) (by kernel_rfl) ⟨lone_ok (q := (4, samePrL0Q (PIf.spec samePrL0I))) (by kernel_rfl) samePrL0_ok, trivial⟩) ?_
 rintro ⟨⟨a, b, _⟩, _⟩
 refine (samePr_raw ..).trans ?_
 show _ = ((samePrTr a b).val).map _
 unfold samePrTr
 refine cond_outP (fun _ =>?_) (fun _ =>?_)
 ·rfl
 ·refine bindP (fun b0 =>?_)
  rcases b0 with x0 | y0
  ·dsimp only [selim, cond_true, cond_false, Bool.not_true, Bool.not_false, one, none1, mI, samePrL0I]
   try (first|refine (cond_t rfl).trans ?_|refine (cond_f rfl).trans ?_)
   rfl
  ·dsimp only [selim, cond_true, cond_false, Bool.not_true, Bool.not_false, one, none1, mI, samePrL0I]
   try (first|refine (cond_t rfl).trans ?_|refine (cond_f rfl).trans ?_)
   rfl
theorem samePr_k {G : List (Nat × Con)} (h : GOk Tryz.prog gl G) : GOk Tryz.prog gl ((23, samePr_C samePrS) :: G) := GOk.cons ⟨Tryz.f23, body Tryz.f23, by kernel_rfl, by kernel_rfl, by kernel_rfl⟩ samePr_ok h
abbrev sameEnL0vs : List Vh := [.s (.e (.sl (.st .en))), .s (.e (.sl (.st .en))), vi, vi]
abbrev sameEnL0os : List OSh := []
noncomputable abbrev sameEnL0fin : Fin := ((Fin.one 0 Tryz.f24.ntmps (.exit 0) [] [] []).or (Fin.one 0 Tryz.f24.ntmps .ret [4] [vb] []))
noncomputable abbrev sameEnL0Q (sp : VhL sameEnL0vs × OShL sameEnL0os → Option sameEnL0fin.Y) : LCon := LCon.of Tryz.f24.ntmps [0, 1, 12, 13] sameEnL0vs sameEnL0os sameEnL0fin sp
def sameEnL0Step (v0 v1 : List En) (v2 st : Int) : T ((Int) ⊕ (Unit ⊕ Unit)) :=
 let v3 := st
 bif decide (v3 < v2) then
 bif inR v3 v0.length then
 bif inR v3 v1.length then
 bif !((rdE (EK.st SN.en) v0 v3).edge == (rdE (EK.st SN.en) v1 v3).edge && ((rdE (EK.st SN.en) v0 v3).node == (rdE (EK.st SN.en) v1 v3).node && true)) then
 .ret (Sum.inr (Sum.inr (())))
 else
 .ret (Sum.inl (w64 (v3 + 1)))
 else
 .bot
 else
 .bot
 else
 .ret (Sum.inr (Sum.inl (())))
@[reducible] def sameEnL0I : PIf (VhL sameEnL0vs × OShL sameEnL0os) sameEnL0fin.Y where
 α := Unit ⊕ Unit
 tr x := T.loop (sameEnL0Step x.1.1 x.1.2.1 x.1.2.2.1) FU x.1.2.2.2.1
 enc x a := match a with | Sum.inl (b) => Sum.inl (((), ())) | Sum.inr (b) => Sum.inr (((false, ()), ()))
theorem sameEnL0_raw (v0 v1 : List En) (v2 v3 : Int) : runW 0 Tryz.f24 0 [0, 1, 12, 13] sameEnL0vs sameEnL0os sameEnL0fin [] [] [] (((v0, v1, v2, v3, ()), ()) : VhL sameEnL0vs × OShL sameEnL0os) = (bif decide (v3 < v2) then bif inR v3 v0.length then bif inR v3 v1.length then bif !((rdE (EK.st SN.en) v0 v3).edge == (rdE (EK.st SN.en) v1 v3).edge && ((rdE (EK.st SN.en) v0 v3).node == (rdE (EK.st SN.en) v1 v3).node && true)) then some (Sum.inr (Sum.inr ((false, ()), ()))) else some (Sum.inl ((v0, v1, v2, w64 (v3 + 1), ()), ())) else none else none
else some (Sum.inr (Sum.inl ((), ())))) := by kernel_rfl
theorem sameEnL0_ok : LOk Tryz.prog gl 0 (sameEnL0Q (PIf.spec sameEnL0I)) (getL (body Tryz.f24) 0) := by
 refine lwk (Lc := []) (nh := []) (G := []) (GOk.nil) (noloopN (by kernel_rfl)) (Fin.or_ok (Fin.one_ok _ _ _ _) (Fin.one_ok _ _ _ _)) ?_
 rintro ⟨⟨v0, v1, v2, v3, _⟩, _⟩ y hy
 refine ⟨_, loopP_ok (eX := fun (st : Int) => (let v3 := st; ((v0, v1, v2, v3, ()), ()) : VhL sameEnL0vs × OShL sameEnL0os)) (body := sameEnL0Step v0 v1 v2) (fun st =>?_) _ v3 y hy⟩
 revert st
 intro v3
 refine (sameEnL0_raw ..).trans ?_
 unfold sameEnL0Step
 repeat' (first|refine cond_outP (fun _ =>?_) (fun _ =>?_) | rfl)
def sameEnTr (a b : List En) : T (Bool) :=
 bif Int.ofNat a.length != Int.ofNat b.length then
 .ret false
 else
 (T.loop (sameEnL0Step a b (Int.ofNat a.length)) 4611686018427387904 0).bind fun b0 => selim b0
 (fun x0 => .ret true)
 (fun y0 => .ret false)
@[reducible] def sameEnI : PIf (VhL [.s (.e (.sl (.st .en))), .s (.e (.sl (.st .en)))] × OShL []) (VhL [vb] × OShL []) where
 α := Bool
 tr x := sameEnTr x.1.1 x.1.2.1
 enc x a := ((a, ()), ())
abbrev sameEn_T : Type := VhL [.s (.e (.sl (.st .en))), .s (.e (.sl (.st .en)))] × OShL [] → Option (VhL [vb] × OShL [])
noncomputable abbrev sameEn_C (sp : sameEn_T) : Con := Con.of [.s (.e (.sl (.st .en))), .s (.e (.sl (.st .en)))] [] [vb] [] sp
noncomputable abbrev sameEnS : sameEn_T := PIf.spec sameEnI
theorem sameEn_raw (p0 : VhL sameEnL0vs × OShL sameEnL0os → Option sameEnL0fin.Y) (a b : List En) : runN Tryz.f24 [.s (.e (.sl (.st .en))), .s (.e (.sl (.st .en)))] [] [vb] [] [] [(4, sameEnL0Q p0)] [] (((a, b, ()), ()) : VhL [.s (.e (.sl (.st .en))), .s (.e (.sl (.st .en)))] × OShL []) = (bif Int.ofNat a.length != Int.ofNat b.length then some ((false, ()), ()) else (p0 ((a, b, Int.ofNat a.length, 0, ()), ())).bind fun z => selim z (fun z => some ((true, ()), ())) fun z => some ((z.1.1, ()), ())) := by kernel_rfl
theorem sameEn_ok : Sound Tryz.prog gl 24 (sameEn_C sameEnS) := by
 refine cnk (fn := Tryz.f24) (G := []) (GOk.nil) (by kernel_rfl) (by kernel_rfl) (Lc := [(4, sameEnL0Q (PIf.spec sameEnL0I))]) (nh := []) (lcok (bs := [getL (body Tryz.f24) 0]) (by kernel_rfl) ⟨lone_ok (q := (4, sameEnL0Q (PIf.spec sameEnL0I))) (by kernel_rfl) sameEnL0_ok, trivial⟩) ?_
 rintro ⟨⟨a, b, _⟩, _⟩
 refine (sameEn_raw ..).trans ?_
 show _ = ((sameEnTr a b).val).map _
 unfold sameEnTr
 refine cond_outP (fun _ =>?_) (fun _ =>?_)
 ·rfl
 ·refine bindP (fun b0 =>?_)
  rcases b0 with x0 | y0
  ·dsimp only [selim, cond_true, cond_false, Bool.not_true, Bool.not_false, one, none1, mI, sameEnL0I]
   try (first|refine (cond_t rfl).trans ?_|refine (cond_f rfl).trans ?_)
   rfl
  ·dsimp only [selim, cond_true, cond_false, Bool.not_true, Bool.not_false, one, none1, mI, sameEnL0I]
   try (first|refine (cond_t rfl).trans ?_|refine (cond_f rfl).trans ?_)
   rfl
theorem sameEn_k {G : List (Nat × Con)} (h : GOk Tryz.prog gl G) : GOk Tryz.prog gl ((24, sameEn_C sameEnS) :: G) := GOk.cons ⟨Tryz.f24, body Tryz.f24, by kernel_rfl, by kernel_rfl, by kernel_rfl⟩ sameEn_ok h
def sameResTr (a b : Res) : T (Bool) :=
 bif a.err == b.err then
 bif a.id == b.id then
 (samePrTr a.pairs b.pairs).bind fun x0 =>
 bif x0 then
 (sameEnTr a.out b.out).bind fun x1 =>
 bif x1 then
 (sameEnTr a.inn b.inn).bind fun x2 =>
 .ret x2
 else
 .ret false
 else
 .ret false
 else
 .ret false
 else
 .ret false
@[reducible] def sameResI : PIf (VhL [.s (.e (.st .res)), .s (.e (.st .res))] × OShL []) (VhL [vb] × OShL []) where
 α := Bool
 tr x := sameResTr x.1.1 x.1.2.1
 enc x a := ((a, ()), ())
abbrev sameRes_T : Type := VhL [.s (.e (.st .res)), .s (.e (.st .res))] × OShL [] → Option (VhL [vb] × OShL [])
noncomputable abbrev sameRes_C (sp : sameRes_T) : Con := Con.of [.s (.e (.st .res)), .s (.e (.st .res))] [] [vb] [] sp
noncomputable abbrev sameResS : sameRes_T := PIf.spec sameResI
theorem sameRes_raw (sp_samePr : samePr_T) (sp_sameEn : sameEn_T) (a b : Res) : runN Tryz.f14 [.s (.e (.st .res)), .s (.e (.st .res))] [] [vb] [] [(23, samePr_C sp_samePr), (24, sameEn_C sp_sameEn)] [] [] (((a, b, ()), ()) : VhL [.s (.e (.st .res)), .s (.e (.st .res))] × OShL []) = (bif a.err == b.err then bif a.id == b.id then (sp_samePr ((a.pairs, b.pairs, ()), ())).bind fun val => bif val.1.1 then (sp_sameEn ((a.out, b.out, ()), ())).bind fun val => bif val.1.1 then (sp_sameEn ((a.inn, b.inn, ()), ())).bind fun val => some ((val.1.1, ()), ()) else some ((false, ()), ()) else some ((false, ()), ()) else some ((false, ()), ())
else some ((false, ()), ())) := by kernel_rfl
theorem sameRes_ok : Sound Tryz.prog gl 14 (sameRes_C sameResS) := by
 refine cnk (fn := Tryz.f14) (G := [(23, samePr_C samePrS), (24, sameEn_C sameEnS)]) (samePr_k (sameEn_k (GOk.nil))) (by kernel_rfl) (by kernel_rfl) (Lc := []) (nh := []) (noloopN (by kernel_rfl)) ?_
 rintro ⟨⟨a, b, _⟩, _⟩
 refine (sameRes_raw ..).trans ?_
 show _ = ((sameResTr a b).val).map _
 unfold sameResTr
 repeat' (first|refine cond_outP (fun _ =>?_) (fun _ =>?_)|(refine bindP (fun _ =>?_); try dsimp only [selim, cond_true, cond_false, Bool.not_true, Bool.not_false, one, none1, mI, samePrI, sameEnI]) | rfl)
section
variable {N : Nat} {ro : Bool} {n : Nat} {s : RS} {c : Cfg} {got held : List Int}
def Dn (s : RS) (held : List Int) : Prop := s.2 = held.reverse ∧ held.length ≤ 1000000 ∧ ∀ x ∈ held, In64 x
theorem Dn.set (b : Bool) {l : List Int} (h : l.length ≤ 1000000) (h2 : ∀ x ∈ l, In64 x) : Dn (b, (ordSet l).reverse) (ordSet l) := ⟨rfl, Nat.le_trans (ordSet_len l) h, fun x hx => h2 x ((mem_ordSet l x).1 hx)⟩
theorem in64_0 : In64 0 := ⟨by decide, by decide⟩
theorem all1 {a : Int} (ha : In64 a) : ∀ x ∈ [a], In64 x := fun x hx => by simp at hx; subst hx; exact ha
theorem all2 {a b : Int} (ha : In64 a) (hb : In64 b) : ∀ x ∈ [a, b], In64 x := fun x hx => by simp at hx; rcases hx with rfl | rfl <;> assumption
theorem all3 {a b d : Int} (ha : In64 a) (hb : In64 b) (hd : In64 d) : ∀ x ∈ [a, b, d], In64 x := fun x hx => by simp at hx; rcases hx with rfl | rfl | rfl <;> assumption
theorem Wr.set {l : List Int} (h : ro = false) (hl : l ≠ []) : Wr ro (false, (ordSet l).reverse) := ⟨h, by simpa using ordSet_ne hl⟩
theorem known2_sat {a b : Int} {Q : Nat → RS → Bool → Prop} (hq : ∀ r, Q n s r) : (knownTr [a, b] c got held).sat N (rule ro) n s Q := by
 have e1 : inR 0 [a, b].length = true := rfl
 have e2 : inR (w64 (Int.ofNat [a, b].length - 1)) [a, b].length = true := by kernel_rfl
 unfold knownTr knownF knownB
 simp only [F.tree, e1, e2, cond_true]
 exact T.sat_cond (fun _ => hq _) (fun _ => hq _)
theorem known1_sat {a : Int} {Q : Nat → RS → Bool → Prop} (hq : ∀ r, Q n s r) : (knownTr [a] c got held).sat N (rule ro) n s Q := by
 have e1 : inR 0 [a].length = true := rfl
 have e2 : inR (w64 (Int.ofNat [a].length - 1)) [a].length = true := by kernel_rfl
 unfold knownTr knownF knownB
 simp only [F.tree, e1, e2, cond_true]
 exact T.sat_cond (fun _ => hq _) (fun _ => hq _)
def Sm (r : Res) : Prop := r.pairs.length ≤ 1000 ∧ r.out.length ≤ 1000 ∧ r.inn.length ≤ 1000
theorem sm0 {e i : Int} : Sm (Res.mk e i [] [] []) := ⟨Nat.zero_le _, Nat.zero_le _, Nat.zero_le _⟩
abbrev QD (_ : Nat) (s : RS) (x : Res × List Int) : Prop := Dn s x.2 ∧ Sm x.1
theorem add_sat (hg : got.length = N) (hn : n ≤ N) (hr : ro = false) (hs : s.2 = []) : (addTr c got held).sat N (rule ro) n s QD := by
 unfold addTr
 refine T.sat_bind (latch_sat hg hn hs (by simp) (all1 in64_0) (by simp) fun n' h1 h2 =>?_)
 have hw : Wr ro (false, (ordSet [0]).reverse) := .set hr (by simp)
 have hD : Dn (false, (ordSet [0]).reverse) (ordSet [0]) := .set _ (by simp) (all1 in64_0)
 generalize ordSet [0] = S at hw hD
 repeat' (first
 |exact ⟨hD, sm0⟩
 |refine T.sat_bind (load_sat fun _ _ _ =>?_)
 |refine T.sat_bind (word_sat fun _ _ _ =>?_)
 |refine T.sat_bind (find_sat fun _ _ _ =>?_)
 |refine T.sat_bind (next_sat fun _ _ _ =>?_)
 |refine T.sat_bind (store_sat hw fun _ =>?_)
 |refine T.sat_bind (set_sat hw fun _ =>?_)
 |refine T.sat_bind (retire_sat hw fun _ =>?_)
 |refine T.sat_bind (take_sat hw fun _ _ _ =>?_)
 |refine T.sat_bind (unlink_sat hg hw fun _ _ _ =>?_)
 |refine T.sat_cond (fun _ =>?_) (fun _ =>?_))
theorem link_sat (hg : got.length = N) (hn : n ≤ N) (hr : ro = false) (hs : s.2 = []) (h0 : Dn s held) {a b : Int} (ha : In64 a) (hb : In64 b) : (linkTr a b c got held).sat N (rule ro) n s QD := by
 unfold linkTr
 refine T.sat_bind (known2_sat fun r =>?_)
 refine T.sat_cond (fun _ => ⟨h0, sm0⟩) (fun _ =>?_)
 refine T.sat_bind (latch_sat hg hn hs (by simp) (all3 in64_0 ha hb) (by simp) fun n' h1 h2 =>?_)
 have hw : Wr ro (false, (ordSet [0, a, b]).reverse) := .set hr (by simp)
 have hD : Dn (false, (ordSet [0, a, b]).reverse) (ordSet [0, a, b]) := .set _ (by simp) (all3 in64_0 ha hb)
 generalize ordSet [0, a, b] = S at hw hD
 repeat' (first
 |exact ⟨hD, sm0⟩
 |refine T.sat_bind (load_sat fun _ _ _ =>?_)
 |refine T.sat_bind (word_sat fun _ _ _ =>?_)
 |refine T.sat_bind (find_sat fun _ _ _ =>?_)
 |refine T.sat_bind (next_sat fun _ _ _ =>?_)
 |refine T.sat_bind (store_sat hw fun _ =>?_)
 |refine T.sat_bind (set_sat hw fun _ =>?_)
 |refine T.sat_bind (retire_sat hw fun _ =>?_)
 |refine T.sat_bind (take_sat hw fun _ _ _ =>?_)
 |refine T.sat_bind (unlink_sat hg hw fun _ _ _ =>?_)
 |refine T.sat_cond (fun _ =>?_) (fun _ =>?_))
end
section
variable {N : Nat} {ro : Bool} {n : Nat} {s : RS} {c : Cfg} {got held : List Int}
theorem cut_sat (hg : got.length = N) (hn : n ≤ N) (hr : ro = false) (h0 : Dn s held) {i : Int} : (cutTr i c got held).sat N (rule ro) n s QD := by
 unfold cutTr
 refine T.sat_cond (fun _ => ⟨h0, sm0⟩) (fun _ => T.sat_cond (fun _ => ⟨h0, sm0⟩) (fun _ =>?_))
 refine T.sat_bind (T.sat_loop (fun n' s' x => Dn s' x.1) ?_ _ _ _ _ (by omega) hn h0)
 rintro n s ⟨held, v10, v11⟩ hD hn
 dsimp only at hD
 unfold cutL0Step
 dsimp only
 refine T.sat_bind (word_sat fun h1 x1 hx1 =>?_)
 refine T.sat_cond (fun _ => ⟨hD, sm0⟩) (fun _ =>?_)
 refine T.sat_bind (load_sat fun h2 x4 hx4 =>?_)
 refine T.sat_bind (load_sat fun h3 x5 hx5 =>?_)
 have hfree : ∀ {Q : Nat → RS → (List Int × Int × Int) ⊕ (List Int × Int) → Prop}, (∀ n', n < n' → Dn (false, (ordSet [x4, x5]).reverse) (ordSet [x4, x5]) → Q n' (false, (ordSet [x4, x5]).reverse) (.inl (ordSet [x4, x5], x4, x5))) →
   ((freeTr held).bind fun _ => (latchTr [x4, x5] c got []).bind fun x8 => .ret (Sum.inl (x8, x4, x5))).sat N (rule ro) (n + 1 + 1 + 1) s Q := fun hq => by
  refine T.sat_bind (free_sat hD.1 hD.2.1 (by omega) fun n1 b h4 h5 =>?_)
  refine T.sat_bind (latch_sat hg h5 rfl (by simp) (all2 hx4 hx5) (by simp) fun n2 h6 h7 =>?_)
  exact hq _ (by omega) (.set _ (by simp) (all2 hx4 hx5))
 refine T.sat_cond (fun he =>?_) (fun _ => hfree fun _ h5 h6 => ⟨h5, h6⟩)
 have hw : Wr ro s := ⟨hr, by rw [hD.1]; simpa using he⟩
 refine T.sat_gret (by rw [ordG_of (by simp) (all2 hx4 hx5), ordG_of hD.2.1 hD.2.2]; rfl) ?_
 refine T.sat_cond (fun _ =>?_) (fun _ => hfree fun _ h5 h6 => ⟨h5, h6⟩)
 repeat' (first
 |exact ⟨hD, sm0⟩
 |refine T.sat_bind (load_sat fun _ _ _ =>?_)
 |refine T.sat_bind (word_sat fun _ _ _ =>?_)
 |refine T.sat_bind (find_sat fun _ _ _ =>?_)
 |refine T.sat_bind (next_sat fun _ _ _ =>?_)
 |refine T.sat_bind (store_sat hw fun _ =>?_)
 |refine T.sat_bind (set_sat hw fun _ =>?_)
 |refine T.sat_bind (retire_sat hw fun _ =>?_)
 |refine T.sat_bind (take_sat hw fun _ _ _ =>?_)
 |refine T.sat_bind (unlink_sat hg hw fun _ _ _ =>?_)
 |refine T.sat_cond (fun _ =>?_) (fun _ =>?_))
theorem walkS_sat (hg : got.length = N) (hn : n ≤ N) (hw : Wr ro s) {w r k v : Int} {Q : Nat → RS → Bool → Prop} (hq : ∀ n' b, n ≤ n' → n' ≤ N → Q n' s b) : (walkSTr w r c got held k v).sat N (rule ro) n s Q := by
 unfold walkSTr
 refine T.sat_bind (T.sat_loop (fun n' s' _ => n ≤ n' ∧ s' = s) ?_ _ _ _ _ (by omega) hn ⟨by omega, rfl⟩)
 rintro n1 s1 ⟨v12, v13, v16⟩ ⟨hI, rfl⟩ hn1
 unfold walkSL0Step
 dsimp only
 refine T.sat_cond (fun _ =>?_) (fun _ => hq _ _ hI hn1)
 refine T.sat_bind ?_
 unfold setCF setCB
 refine T.sat_bind (load_sat fun h1 x1 hx1 =>?_)
 refine T.sat_cond (fun _ =>?_) (fun _ => T.sat_bind (store_sat hw fun h2 => hq _ _ (by omega) (by omega)))
 exact T.sat_bind (next_sat fun h3 x3 hx3 => ⟨by omega, by omega, rfl⟩)
theorem setProp_sat (hg : got.length = N) (hn : n ≤ N) (hr : ro = false) (hs : s.2 = []) (h0 : Dn s held) {m k v : Int} (hm : In64 m) : (setPropTr m k v c got held).sat N (rule ro) n s QD := by
 unfold setPropTr
 refine T.sat_bind (known1_sat fun r =>?_)
 refine T.sat_cond (fun _ => ⟨h0, sm0⟩) (fun _ =>?_)
 refine T.sat_bind (latch_sat hg hn hs (by simp) (all1 hm) (by simp) fun n' h1 h2 =>?_)
 have hw : Wr ro (false, (ordSet [m]).reverse) := .set hr (by simp)
 have hD : Dn (false, (ordSet [m]).reverse) (ordSet [m]) := .set _ (by simp) (all1 hm)
 generalize ordSet [m] = S at hw hD
 refine T.sat_bind (find_sat fun h3 x2 hx2 =>?_)
 refine T.sat_cond (fun _ => ⟨hD, sm0⟩) (fun _ =>?_)
 refine T.sat_bind (load_sat fun h4 x4 hx4 =>?_)
 refine T.sat_bind (walkS_sat hg (by omega) hw fun n5 b h5 h6 =>?_)
 repeat' (first
 |exact ⟨hD, sm0⟩
 |refine T.sat_bind (load_sat fun _ _ _ =>?_)
 |refine T.sat_bind (word_sat fun _ _ _ =>?_)
 |refine T.sat_bind (find_sat fun _ _ _ =>?_)
 |refine T.sat_bind (next_sat fun _ _ _ =>?_)
 |refine T.sat_bind (store_sat hw fun _ =>?_)
 |refine T.sat_bind (set_sat hw fun _ =>?_)
 |refine T.sat_bind (retire_sat hw fun _ =>?_)
 |refine T.sat_bind (take_sat hw fun _ _ _ =>?_)
 |refine T.sat_bind (unlink_sat hg hw fun _ _ _ =>?_)
 |refine T.sat_cond (fun _ =>?_) (fun _ =>?_))
theorem walkD_sat (hg : got.length = N) (hn : n ≤ N) (hw : Wr ro s) {w r k w3 r3 : Int} {Q : Nat → RS → Bool → Prop} (hq : ∀ n' b, n ≤ n' → n' ≤ N → Q n' s b) : (walkDTr w r c got held k w3 r3).sat N (rule ro) n s Q := by
 unfold walkDTr
 refine T.sat_bind (T.sat_loop (fun n' s' _ => n ≤ n' ∧ s' = s) ?_ _ _ _ _ (by omega) hn ⟨by omega, rfl⟩)
 rintro n1 s1 ⟨v12, v13, v16⟩ ⟨hI, rfl⟩ hn1
 unfold walkDL0Step
 dsimp only
 refine T.sat_cond (fun _ =>?_) (fun _ => hq _ _ hI hn1)
 refine T.sat_bind ?_
 unfold delCF delCB
 have hD : ∀ n', n1 < n' → n' ≤ N → True := fun _ _ _ => trivial
 repeat' (first
 |exact ⟨by omega, by omega, rfl⟩
 |exact hq _ _ (by omega) (by omega)
 |refine T.sat_bind (load_sat fun _ _ _ =>?_)
 |refine T.sat_bind (next_sat fun _ _ _ =>?_)
 |refine T.sat_bind (store_sat hw fun _ =>?_)
 |refine T.sat_bind (retire_sat hw fun _ =>?_)
 |refine T.sat_cond (fun _ =>?_) (fun _ =>?_))
theorem delProp_sat (hg : got.length = N) (hn : n ≤ N) (hr : ro = false) (hs : s.2 = []) (h0 : Dn s held) {m k : Int} (hm : In64 m) : (delPropTr m k c got held).sat N (rule ro) n s QD := by
 unfold delPropTr
 refine T.sat_bind (known1_sat fun r =>?_)
 refine T.sat_cond (fun _ => ⟨h0, sm0⟩) (fun _ =>?_)
 refine T.sat_bind (latch_sat hg hn hs (by simp) (all1 hm) (by simp) fun n' h1 h2 =>?_)
 have hw : Wr ro (false, (ordSet [m]).reverse) := .set hr (by simp)
 have hD : Dn (false, (ordSet [m]).reverse) (ordSet [m]) := .set _ (by simp) (all1 hm)
 generalize ordSet [m] = S at hw hD
 refine T.sat_bind (find_sat fun h3 x2 hx2 =>?_)
 refine T.sat_cond (fun _ => ⟨hD, sm0⟩) (fun _ =>?_)
 refine T.sat_bind (load_sat fun h4 x4 hx4 =>?_)
 refine T.sat_bind (walkD_sat hg (by omega) hw fun n5 b h5 h6 =>?_)
 repeat' (first
 |exact ⟨hD, sm0⟩
 |refine T.sat_bind (load_sat fun _ _ _ =>?_)
 |refine T.sat_bind (word_sat fun _ _ _ =>?_)
 |refine T.sat_bind (find_sat fun _ _ _ =>?_)
 |refine T.sat_bind (next_sat fun _ _ _ =>?_)
 |refine T.sat_bind (store_sat hw fun _ =>?_)
 |refine T.sat_bind (set_sat hw fun _ =>?_)
 |refine T.sat_bind (retire_sat hw fun _ =>?_)
 |refine T.sat_bind (take_sat hw fun _ _ _ =>?_)
 |refine T.sat_bind (unlink_sat hg hw fun _ _ _ =>?_)
 |refine T.sat_cond (fun _ =>?_) (fun _ =>?_))
end
section
variable {N : Nat} {ro : Bool} {n : Nat} {s : RS} {c : Cfg} {got held : List Int}
def Ls (B : Nat) (l : List Int) : Prop := l.length ≤ B ∧ ∀ x ∈ l, In64 x
theorem eachA_sat (hg : got.length = N) (hN : N ≤ 1000) (hn : n ≤ N) {w r : Int} {sd sd2 : Sid} {us : List Int} (hu : Ls (n + N) us) {Q : Nat → RS → List Int → Prop} (hq : ∀ n' x, n < n' → n' ≤ N → Ls (n' + N) x → Q n' s x) : (eachATr w r sd c got held sd2 us).sat N (rule ro) n s Q := by
 unfold eachATr
 refine T.sat_bind (load_sat fun h1 x1 hx1 =>?_)
 refine T.sat_bind (T.sat_loop (fun n' s' x => n < n' ∧ s' = s ∧ Ls (n' + N) x.1) ?_ _ _ _ _ (by omega) (by omega) ⟨by omega, rfl, by have := hu.1; show us.length ≤ _; omega, hu.2⟩)
 rintro n1 s1 ⟨us, v15⟩ ⟨hI, rfl, hl⟩ hn1
 unfold eachAL0Step eachAL0B
 dsimp only at hl ⊢
 refine T.sat_cond (fun _ =>?_) (fun _ => hq _ _ hI hn1 hl)
 refine T.sat_bind ?_
 unfold aroundCF aroundCB
 refine T.sat_bind (load_sat fun h2 x2 hx2 =>?_)
 have hl1 := hl.1
 dsimp only [F.tree]; rw [decide_eq_true (by simp; omega), cond_true]
 refine T.sat_bind (next_sat fun h3 x3 hx3 =>?_)
 refine ⟨by omega, by omega, rfl, by simp; omega, fun x hx =>?_⟩
 rcases List.mem_append.1 hx with h | h
 ·exact hl.2 x h
 ·simp at h; subst h; exact hx2
theorem around_sat (hg : got.length = N) (hN : N ≤ 1000) (hn : n ≤ N) {w r : Int} {Q : Nat → RS → List Int → Prop} (hq : ∀ n' x, n < n' → n' ≤ N → Ls 2000 x → Q n' s x) : (aroundTr w r c got held).sat N (rule ro) n s Q := by
 unfold aroundTr
 refine T.sat_bind (eachA_sat hg hN hn ⟨by simp, fun x hx => (by cases hx)⟩ fun n1 x1 h1 h2 h3 =>?_)
 refine T.sat_bind (eachA_sat hg hN h2 h3 fun n4 x4 h4 h5 h6 =>?_)
 exact hq _ _ (by omega) h5 ⟨by have := h6.1; omega, h6.2⟩
theorem Ls.append {B : Nat} {l m : List Int} (h : Ls 2000 l) (h2 : Ls 2 m) : Ls 2002 (l ++ m) := ⟨by simp; have := h.1; have := h2.1; omega, fun x hx => (List.mem_append.1 hx).elim (h.2 x) (h2.2 x)⟩
theorem holdD_sat (hg : got.length = N) (hN : N ≤ 1000) (hn : n ≤ N) (hr : ro = false) (hs : s.2 = []) (h0 : Dn s held) {m : Int} {more : List Int} (hm : more ≠ []) (hm2 : Ls 2 more) {Q : Nat → RS → Int × Bool × List Int → Prop}
  (hq : ∀ n' s' x, n ≤ n' → n' ≤ N → Dn s' x.2.2 → (x.2.1 = true → Wr ro s') → Q n' s' x) : (holdDTr m more c got held).sat N (rule ro) n s Q := by
 unfold holdDTr
 refine T.sat_bind (find_sat fun h1 x1 hx1 =>?_)
 refine T.sat_cond (fun _ => hq _ _ _ (by omega) (by omega) h0 (fun h => by cases h)) (fun _ =>?_)
 refine T.sat_bind (around_sat hg hN (by omega) fun n2 x2 h2 h3 h4 =>?_)
 have hl := h4.1
 have hl2 := hm2.1
 dsimp only [F.tree]; rw [decide_eq_true (by omega), cond_true]
 refine T.sat_bind (T.sat_loop (fun n' s' x => n ≤ n' ∧ s'.2 = [] ∧ x.2.2.2 ≠ [] ∧ Ls 2002 x.2.2.2) ?_ _ _ _ _ (by omega) h3 ⟨by omega, hs, by simpa using fun _ => hm, h4.append (B := 0) hm2⟩)
 rintro n5 s5 ⟨held5, v15, v16, v17⟩ ⟨h5, h6, h7, h8⟩ hn5
 dsimp only at h7 h8
 unfold holdDL0Step holdDL0B
 dsimp only
 have h81 := h8.1
 refine T.sat_bind (latch_sat hg hn5 h6 (by omega) h8.2 h7 fun n9 h9 h10 =>?_)
 have hw : Wr ro (false, (ordSet v17).reverse) := .set hr h7
 have hD : Dn (false, (ordSet v17).reverse) (ordSet v17) := .set _ (by omega) h8.2
 generalize ordSet v17 = S at hw hD
 refine T.sat_bind (find_sat fun h11 x11 hx11 =>?_)
 refine T.sat_cond (fun _ => hq _ _ _ (by omega) (by omega) hD (fun h => by cases h)) (fun _ =>?_)
 refine T.sat_bind (around_sat hg hN (by omega) fun n12 x12 h12 h13 h14 =>?_)
 have hl3 := h14.1
 dsimp only [F.tree]; rw [decide_eq_true (by omega), cond_true]
 have h15 := h14.append (B := 0) hm2
 refine T.sat_gret (by rw [ordG_of (by have := h15.1; omega) h15.2, ordG_of hD.2.1 hD.2.2]; rfl) ?_
 refine T.sat_cond (fun _ => hq _ _ _ (by omega) h13 hD (fun _ => hw)) (fun _ =>?_)
 refine T.sat_bind (free_sat hD.1 hD.2.1 h13 fun n16 b h16 h17 =>?_)
 exact ⟨by omega, by omega, rfl, by simpa using fun _ => hm, h15⟩
theorem gone1_sat (hg : got.length = N) (hn : n ≤ N) (hw : Wr ro s) {w r m : Int} {sd : Sid} {Q : Nat → RS → Unit → Prop} (hq : ∀ n', n < n' → n' ≤ N → Q n' s ()) : (gone1Tr w r sd c got held m).sat N (rule ro) n s Q := by
 unfold gone1Tr
 refine T.sat_bind (load_sat fun h1 x1 hx1 =>?_)
 refine T.sat_bind (T.sat_loop (fun n' s' _ => n < n' ∧ s' = s) ?_ _ _ _ _ (by omega) (by omega) ⟨by omega, rfl⟩)
 rintro n1 s1 v12 ⟨hI, rfl⟩ hn1
 unfold gone1L0Step gone1L0B goneC2F goneC2B goneC3F goneC3B
 dsimp only
 refine T.sat_cond (fun _ => T.sat_bind ?_) (fun _ => hq _ hI hn1)
 refine T.sat_bind (load_sat fun h2 x2 hx2 =>?_)
 refine T.sat_bind (load_sat fun h3 x3 hx3 =>?_)
 refine T.sat_bind (next_sat fun h4 x4 hx4 => T.sat_bind ?_)
 have hD : True := trivial
 repeat' (first
 |exact ⟨by omega, by omega, rfl⟩
 |refine T.sat_bind (load_sat fun _ _ _ =>?_)
 |refine T.sat_bind (word_sat fun _ _ _ =>?_)
 |refine T.sat_bind (find_sat fun _ _ _ =>?_)
 |refine T.sat_bind (next_sat fun _ _ _ =>?_)
 |refine T.sat_bind (store_sat hw fun _ =>?_)
 |refine T.sat_bind (set_sat hw fun _ =>?_)
 |refine T.sat_bind (retire_sat hw fun _ =>?_)
 |refine T.sat_bind (take_sat hw fun _ _ _ =>?_)
 |refine T.sat_bind (unlink_sat hg hw fun _ _ _ =>?_)
 |refine T.sat_cond (fun _ =>?_) (fun _ =>?_))
theorem gone2_sat (hg : got.length = N) (hn : n ≤ N) (hw : Wr ro s) {w r m : Int} {sd : Sid} {Q : Nat → RS → Unit → Prop} (hq : ∀ n', n < n' → n' ≤ N → Q n' s ()) : (gone2Tr w r sd c got held m).sat N (rule ro) n s Q := by
 unfold gone2Tr
 refine T.sat_bind (load_sat fun h1 x1 hx1 =>?_)
 refine T.sat_bind (T.sat_loop (fun n' s' _ => n < n' ∧ s' = s) ?_ _ _ _ _ (by omega) (by omega) ⟨by omega, rfl⟩)
 rintro n1 s1 v12 ⟨hI, rfl⟩ hn1
 unfold gone2L0Step gone2L0B goneC4F goneC4B goneC5F goneC5B
 dsimp only
 refine T.sat_cond (fun _ => T.sat_bind ?_) (fun _ => hq _ hI hn1)
 refine T.sat_bind (load_sat fun h2 x2 hx2 =>?_)
 refine T.sat_bind (next_sat fun h4 x4 hx4 => T.sat_bind ?_)
 have hD : True := trivial
 repeat' (first
 |exact ⟨by omega, by omega, rfl⟩
 |refine T.sat_bind (load_sat fun _ _ _ =>?_)
 |refine T.sat_bind (word_sat fun _ _ _ =>?_)
 |refine T.sat_bind (find_sat fun _ _ _ =>?_)
 |refine T.sat_bind (next_sat fun _ _ _ =>?_)
 |refine T.sat_bind (store_sat hw fun _ =>?_)
 |refine T.sat_bind (set_sat hw fun _ =>?_)
 |refine T.sat_bind (retire_sat hw fun _ =>?_)
 |refine T.sat_bind (take_sat hw fun _ _ _ =>?_)
 |refine T.sat_bind (unlink_sat hg hw fun _ _ _ =>?_)
 |refine T.sat_cond (fun _ =>?_) (fun _ =>?_))
theorem drop_sat (hg : got.length = N) (hN : N ≤ 1000) (hn : n ≤ N) (hr : ro = false) (hs : s.2 = []) (h0 : Dn s held) {m : Int} (hm : In64 m) : (dropTr m c got held).sat N (rule ro) n s QD := by
 unfold dropTr
 refine T.sat_bind (known1_sat fun r =>?_)
 refine T.sat_cond (fun _ => ⟨h0, sm0⟩) (fun _ =>?_)
 refine T.sat_bind (holdD_sat hg hN hn hr hs h0 (by simp) ⟨by simp, all1 hm⟩ fun n1 s1 x1 h1 h2 hD hw1 =>?_)
 refine T.sat_cond (fun _ => ⟨hD, sm0⟩) (fun hb =>?_)
 have hw := hw1 (by simpa using hb)
 refine T.sat_bind (set_sat hw fun h3 =>?_)
 refine T.sat_bind (gone1_sat hg (by omega) hw fun n4 h4 h5 =>?_)
 refine T.sat_bind (gone2_sat hg (by omega) hw fun n6 h6 h7 =>?_)
 refine T.sat_bind (load_sat fun h8 x8 hx8 =>?_)
 refine T.sat_bind (T.sat_loop (fun n' s' _ => s' = s1) ?_ _ _ _ _ (by omega) (by omega) rfl)
 rintro n9 s9 v14 rfl hn9
 unfold dropL0Step dropL0B
 dsimp only
 refine T.sat_cond (fun _ =>?_) (fun _ => T.sat_bind (retire_sat hw fun _ => ⟨hD, sm0⟩))
 exact T.sat_bind (next_sat fun h10 x10 hx10 => T.sat_bind (retire_sat hw fun _ => ⟨by omega, rfl⟩))
end
section
variable {N : Nat} {ro : Bool} {n : Nat} {s : RS} {c : Cfg} {got held : List Int}
theorem eachO_sat (hg : got.length = N) (hN : N ≤ 1000) (hn : n ≤ N) {w r er id : Int} {ps : List Pr} {sd sd2 : Sid} {u1 u2 : List En} (hu : u1.length ≤ n) {Q : Nat → RS → List En → Prop} (hq : ∀ n' x, n < n' → n' ≤ N → x.length ≤ n' → Q n' s x) : (eachOTr w r sd c got held sd2 er id ps u1 u2).sat N (rule ro) n s Q := by
 unfold eachOTr
 refine T.sat_bind (load_sat fun h1 x1 hx1 =>?_)
 refine T.sat_bind (T.sat_loop (fun n' s' x => n < n' ∧ s' = s ∧ x.1.length ≤ n') ?_ _ _ _ _ (by omega) (by omega) ⟨by omega, rfl, by show u1.length ≤ _; omega⟩)
 rintro n1 s1 ⟨u1, v15⟩ ⟨hI, rfl, hl⟩ hn1
 unfold eachOL0Step eachOL0B
 dsimp only at hl ⊢
 refine T.sat_cond (fun _ =>?_) (fun _ => hq _ _ hI hn1 hl)
 refine T.sat_bind ?_
 unfold endsCoF endsCoB
 refine T.sat_bind (load_sat fun h2 x2 hx2 =>?_)
 refine T.sat_bind (load_sat fun h4 x4 hx4 =>?_)
 dsimp only [F.tree]; rw [decide_eq_true (by simp; omega), cond_true]
 refine T.sat_bind (next_sat fun h3 x3 hx3 =>?_)
 exact ⟨by omega, by omega, rfl, by simp; omega⟩
theorem eachI_sat (hg : got.length = N) (hN : N ≤ 1000) (hn : n ≤ N) {w r er id : Int} {ps : List Pr} {sd sd2 : Sid} {u1 u2 : List En} (hu : u2.length ≤ n) {Q : Nat → RS → List En → Prop} (hq : ∀ n' x, n < n' → n' ≤ N → x.length ≤ n' → Q n' s x) : (eachITr w r sd c got held sd2 er id ps u1 u2).sat N (rule ro) n s Q := by
 unfold eachITr
 refine T.sat_bind (load_sat fun h1 x1 hx1 =>?_)
 refine T.sat_bind (T.sat_loop (fun n' s' x => n < n' ∧ s' = s ∧ x.1.length ≤ n') ?_ _ _ _ _ (by omega) (by omega) ⟨by omega, rfl, by show u2.length ≤ _; omega⟩)
 rintro n1 s1 ⟨u2, v15⟩ ⟨hI, rfl, hl⟩ hn1
 unfold eachIL0Step eachIL0B
 dsimp only at hl ⊢
 refine T.sat_cond (fun _ =>?_) (fun _ => hq _ _ hI hn1 hl)
 refine T.sat_bind ?_
 unfold endsCiF endsCiB
 refine T.sat_bind (load_sat fun h2 x2 hx2 =>?_)
 refine T.sat_bind (load_sat fun h4 x4 hx4 =>?_)
 dsimp only [F.tree]; rw [decide_eq_true (by simp; omega), cond_true]
 refine T.sat_bind (next_sat fun h3 x3 hx3 =>?_)
 exact ⟨by omega, by omega, rfl, by simp; omega⟩
theorem sortG_of {n : Nat} (h : n ≤ 1000000) : sortG n = true := decide_eq_true h
theorem ends_sat (hg : got.length = N) (hN : N ≤ 1000) (hn : n ≤ N) {w r : Int} {Q : Nat → RS → Res → Prop} (hq : ∀ n' x, n < n' → n' ≤ N → Sm x → Q n' s x) : (endsTr w r c got held).sat N (rule ro) n s Q := by
 unfold endsTr
 refine T.sat_bind (eachO_sat hg hN hn (by simp) fun n1 x1 h1 h2 h3 =>?_)
 refine T.sat_gret (sortG_of (by omega)) ?_
 refine T.sat_bind (eachI_sat hg hN h2 (by simp) fun n4 x4 h4 h5 h6 =>?_)
 refine T.sat_gret (sortG_of (by omega)) ?_
 exact hq _ _ (by omega) h5 ⟨Nat.zero_le _, by show (sortEn x1).length ≤ _; rw [sortEn, isort_len]; omega, by show (sortEn x4).length ≤ _; rw [sortEn, isort_len]; omega⟩
theorem walkP_sat (hg : got.length = N) (hN : N ≤ 1000) (hn : n ≤ N) {w r er id : Int} {eo ei : List En} {pr : List Pr} (hu : pr.length ≤ n) {Q : Nat → RS → List Pr → Prop} (hq : ∀ n' x, n ≤ n' → n' ≤ N → x.length ≤ n' → Q n' s x) : (walkPTr w r c got held er id eo ei pr).sat N (rule ro) n s Q := by
 unfold walkPTr
 refine T.sat_bind (T.sat_loop (fun n' s' x => n ≤ n' ∧ s' = s ∧ x.1.length ≤ n') ?_ _ _ _ _ (by omega) hn ⟨by omega, rfl, hu⟩)
 rintro n1 s1 ⟨pr, v15, v16, v19⟩ ⟨hI, rfl, hl⟩ hn1
 unfold walkPL0Step walkPL0B
 dsimp only at hl ⊢
 refine T.sat_cond (fun _ =>?_) (fun _ => hq _ _ hI hn1 hl)
 refine T.sat_bind ?_
 unfold pairsCF pairsCB
 refine T.sat_bind (load_sat fun h2 x2 hx2 =>?_)
 refine T.sat_bind (load_sat fun h4 x4 hx4 =>?_)
 dsimp only [F.tree]; rw [decide_eq_true (by simp; omega), cond_true]
 refine T.sat_bind (next_sat fun h3 x3 hx3 =>?_)
 exact ⟨by omega, by omega, rfl, by simp; omega⟩
theorem pairs_sat (hg : got.length = N) (hN : N ≤ 1000) (hn : n ≤ N) {w r : Int} {Q : Nat → RS → Res → Prop} (hq : ∀ n' x, n < n' → n' ≤ N → Sm x → Q n' s x) : (pairsTr w r c got held).sat N (rule ro) n s Q := by
 unfold pairsTr
 refine T.sat_bind (load_sat fun h1 x1 hx1 =>?_)
 refine T.sat_bind (walkP_sat hg hN (by omega) (by simp) fun n2 x2 h2 h3 h4 =>?_)
 refine T.sat_gret (sortG_of (by omega)) ?_
 exact hq _ _ (by omega) h3 ⟨by show (sortPr x2).length ≤ _; rw [sortPr, isort_len]; omega, Nat.zero_le _, Nat.zero_le _⟩
theorem lookP_sat (hg : got.length = N) (hN : N ≤ 1000) (hn : n ≤ N) (hs : s.2 = []) {m : Int} {Q : Nat → RS → Res → Prop} (hq : ∀ n' x, n ≤ n' → n' ≤ N → Sm x → Q n' s x) : (lookPTr m c got held).sat N (rule ro) n s Q := by
 unfold lookPTr
 refine T.sat_bind (known1_sat fun r =>?_)
 refine T.sat_cond (fun _ => hq _ _ (by omega) hn sm0) (fun _ =>?_)
 refine T.sat_bind (T.sat_loop (fun n' s' _ => n ≤ n' ∧ s' = s) ?_ _ _ _ _ (by omega) hn ⟨by omega, rfl⟩)
 rintro n1 s1 v ⟨hI, rfl⟩ hn1
 unfold lookPL0Step lookPL0B
 refine T.sat_bind (see_sat hs fun h1 x1 hx1 =>?_)
 refine T.sat_bind (find_sat fun h2 x2 hx2 =>?_)
 refine T.sat_cond (fun _ => hq _ _ (by omega) (by omega) sm0) (fun _ =>?_)
 refine T.sat_bind (pairs_sat hg hN (by omega) fun n3 x3 h3 h4 hsm =>?_)
 refine T.sat_bind (see_sat hs fun h5 x5 hx5 =>?_)
 exact T.sat_cond (fun _ => hq _ _ (by omega) (by omega) hsm) (fun _ => ⟨by omega, by omega, rfl⟩)
theorem lookN_sat (hg : got.length = N) (hN : N ≤ 1000) (hn : n ≤ N) (hs : s.2 = []) {m : Int} {Q : Nat → RS → Res → Prop} (hq : ∀ n' x, n ≤ n' → n' ≤ N → Sm x → Q n' s x) : (lookNTr m c got held).sat N (rule ro) n s Q := by
 unfold lookNTr
 refine T.sat_bind (known1_sat fun r =>?_)
 refine T.sat_cond (fun _ => hq _ _ (by omega) hn sm0) (fun _ =>?_)
 refine T.sat_bind (T.sat_loop (fun n' s' _ => n ≤ n' ∧ s' = s) ?_ _ _ _ _ (by omega) hn ⟨by omega, rfl⟩)
 rintro n1 s1 v ⟨hI, rfl⟩ hn1
 unfold lookNL0Step lookNL0B
 refine T.sat_bind (see_sat hs fun h1 x1 hx1 =>?_)
 refine T.sat_bind (find_sat fun h2 x2 hx2 =>?_)
 refine T.sat_cond (fun _ => hq _ _ (by omega) (by omega) sm0) (fun _ =>?_)
 refine T.sat_bind (ends_sat hg hN (by omega) fun n3 x3 h3 h4 hsm =>?_)
 refine T.sat_bind (see_sat hs fun h5 x5 hx5 =>?_)
 exact T.sat_cond (fun _ => hq _ _ (by omega) (by omega) hsm) (fun _ => ⟨by omega, by omega, rfl⟩)
theorem walkF_sat (hg : got.length = N) (hn : n ≤ N) {w r k : Int} {Q : Nat → RS → Bool → Prop} (hq : ∀ n' b, n ≤ n' → n' ≤ N → Q n' s b) : (walkFTr w r c got held k).sat N (rule ro) n s Q := by
 unfold walkFTr
 refine T.sat_bind (T.sat_loop (fun n' s' _ => n ≤ n' ∧ s' = s) ?_ _ _ _ _ (by omega) hn ⟨by omega, rfl⟩)
 rintro n1 s1 ⟨v12, v13, v16⟩ ⟨hI, rfl⟩ hn1
 unfold walkFL0Step walkFL0B
 dsimp only
 refine T.sat_cond (fun _ =>?_) (fun _ => hq _ _ hI hn1)
 refine T.sat_bind ?_
 unfold fuseCF fuseCB
 refine T.sat_bind (load_sat fun h1 x1 hx1 =>?_)
 refine T.sat_cond (fun _ => hq _ _ (by omega) (by omega)) (fun _ =>?_)
 exact T.sat_bind (next_sat fun h3 x3 hx3 => ⟨by omega, by omega, rfl⟩)
theorem holdF_sat (hg : got.length = N) (hN : N ≤ 1000) (hn : n ≤ N) (hr : ro = false) (hs : s.2 = []) (h0 : Dn s held) {m a xw xr : Int} {more : List Int} (hm : more ≠ []) (hm2 : Ls 2 more) {Q : Nat → RS → (Int × Bool × List Int × Int) ⊕ (Int × List Int × Int × Int) → Prop}
  (hq : ∀ n' s' x, n ≤ n' → n' ≤ N → Dn s' x.2.2.1 → (x.2.1 = true → Wr ro s') → Q n' s' (.inl x)) (hq2 : ∀ n' s' x, n ≤ n' → n' ≤ N → Dn s' x.2.1 → Q n' s' (.inr x)) : (holdFTr m more c got held a xw xr).sat N (rule ro) n s Q := by
 unfold holdFTr
 refine T.sat_bind (find_sat fun h1 x1 hx1 =>?_)
 refine T.sat_cond (fun _ => hq2 _ _ _ (by omega) (by omega) h0) (fun _ =>?_)
 refine T.sat_bind (around_sat hg hN (by omega) fun n2 x2 h2 h3 h4 =>?_)
 have hl := h4.1
 have hl2 := hm2.1
 dsimp only [F.tree]; rw [decide_eq_true (by omega), cond_true]
 refine T.sat_bind (T.sat_loop (fun n' s' x => n ≤ n' ∧ s'.2 = [] ∧ x.2.2.2.2.2 ≠ [] ∧ Ls 2002 x.2.2.2.2.2) ?_ _ _ _ _ (by omega) h3 ⟨by omega, hs, by simpa using fun _ => hm, h4.append (B := 0) hm2⟩)
 rintro n5 s5 ⟨held5, xw, xr, v15, v16, v17⟩ ⟨h5, h6, h7, h8⟩ hn5
 dsimp only at h7 h8
 unfold holdFL0Step holdFL0B
 dsimp only
 have h81 := h8.1
 refine T.sat_bind (latch_sat hg hn5 h6 (by omega) h8.2 h7 fun n9 h9 h10 =>?_)
 have hw : Wr ro (false, (ordSet v17).reverse) := .set hr h7
 have hD : Dn (false, (ordSet v17).reverse) (ordSet v17) := .set _ (by omega) h8.2
 generalize ordSet v17 = S at hw hD
 refine T.sat_bind (find_sat fun h11 x11 hx11 =>?_)
 refine T.sat_cond (fun _ => hq2 _ _ _ (by omega) (by omega) hD) (fun _ =>?_)
 refine T.sat_bind ?_
 unfold fuseC1F fuseC1B
 refine T.sat_bind (find_sat fun h18 x18 hx18 =>?_)
 refine T.sat_cond (fun _ => hq _ _ _ (by omega) (by omega) hD (fun h => by cases h)) (fun _ =>?_)
 refine T.sat_bind (around_sat hg hN (by omega) fun n12 x12 h12 h13 h14 =>?_)
 have hl3 := h14.1
 dsimp only [F.tree]; rw [decide_eq_true (by omega), cond_true]
 have h15 := h14.append (B := 0) hm2
 refine T.sat_gret (by rw [ordG_of (by have := h15.1; omega) h15.2, ordG_of hD.2.1 hD.2.2]; rfl) ?_
 refine T.sat_cond (fun _ => hq _ _ _ (by omega) h13 hD (fun _ => hw)) (fun _ =>?_)
 refine T.sat_bind (free_sat hD.1 hD.2.1 h13 fun n16 b h16 h17 =>?_)
 exact ⟨by omega, by omega, rfl, by simpa using fun _ => hm, h15⟩
theorem fuse_sat (hg : got.length = N) (hN : N ≤ 1000) (hn : n ≤ N) (hr : ro = false) (hs : s.2 = []) (h0 : Dn s held) {a b : Int} (ha : In64 a) (hb : In64 b) : (fuseTr a b c got held).sat N (rule ro) n s QD := by
 unfold fuseTr
 refine T.sat_cond (fun _ => ⟨h0, sm0⟩) (fun _ =>?_)
 refine T.sat_bind (known2_sat fun r =>?_)
 refine T.sat_cond (fun _ => ⟨h0, sm0⟩) (fun _ =>?_)
 refine T.sat_bind (holdF_sat hg hN hn hr hs h0 (by simp) ⟨by simp, all2 ha hb⟩ (fun n1 s1 x1 h1 h2 hD hw1 =>?_) (fun n1 s1 x1 h1 h2 hD => ⟨hD, sm0⟩))
 refine T.sat_cond (fun _ => ⟨hD, sm0⟩) (fun hb =>?_)
 have hw := hw1 (by simpa using hb)
 refine T.sat_bind (T.sat_loop (fun n' s' v => n1 ≤ n' ∧ s' = s1 ∧ (v = 0 ∨ v = 1 ∨ v = 2)) ?_ _ _ _ _ (by omega) h2 ⟨by omega, rfl, .inl rfl⟩)
 rintro n3 s3 v14 ⟨h3, rfl, hv⟩ hn3
 unfold fuseL0Step fuseL0B
 dsimp only
 refine T.sat_cond (fun hlt =>?_) (fun _ =>?_)
 ·have hi : inR v14 2 = true := by
   have := of_decide_eq_true hlt
   simp [inR]; omega
  have hv1 : w64 (v14 + 1) = 0 ∨ w64 (v14 + 1) = 1 ∨ w64 (v14 + 1) = 2 := by
   have := of_decide_eq_true hlt
   rcases hv with rfl | rfl | rfl
   ·exact .inr (.inl (by rw [w64_id] <;> omega))
   ·exact .inr (.inr (by rw [w64_id] <;> omega))
   ·omega
  dsimp only [F.tree]; rw [hi, cond_true]
  refine T.sat_bind (load_sat fun h4 x4 hx4 =>?_)
  refine T.sat_bind (T.sat_loop (fun n' s' _ => n3 < n' ∧ s' = s3) ?_ _ _ _ _ (by omega) (by omega) ⟨by omega, rfl⟩)
  rintro n5 s5 ⟨v35, v36, v38, v39, v42⟩ ⟨h5, rfl⟩ hn5
  unfold fuseL1Step fuseL1B
  dsimp only
  have hcont : ∀ {n : Nat}, n3 < n → n ≤ N → n3 < n ∧ n1 ≤ n ∧ s5 = s5 ∧ (w64 (v14 + 1) = 0 ∨ w64 (v14 + 1) = 1 ∨ w64 (v14 + 1) = 2) := fun h _ => ⟨h, by omega, rfl, hv1⟩
  refine T.sat_cond (fun _ => T.sat_cond (fun _ =>?_) (fun _ =>?_)) (fun _ =>?_)
  ·exact T.sat_bind (store_sat hw fun h6 => T.sat_bind (next_sat fun h7 x7 hx7 => ⟨by omega, by omega, rfl⟩))
  ·exact T.sat_bind (store_sat hw fun h6 => T.sat_bind (next_sat fun h7 x7 hx7 => ⟨by omega, by omega, rfl⟩))
  ·refine T.sat_cond (fun _ =>?_) (fun _ => hcont h5 hn5)
   exact T.sat_bind (load_sat fun h8 x8 hx8 => T.sat_bind (store_sat hw fun h9 => T.sat_bind (store_sat hw fun h10 => hcont (by omega) (by omega))))
 ·refine T.sat_bind (load_sat fun h4 x4 hx4 =>?_)
  refine T.sat_bind (T.sat_loop (fun n' s' _ => n3 < n' ∧ s' = s3) ?_ _ _ _ _ (by omega) (by omega) ⟨by omega, rfl⟩)
  rintro n5 s5 v21 ⟨h5, rfl⟩ hn5
  unfold fuseL2Step fuseL2B
  dsimp only
  refine T.sat_cond (fun _ =>?_) (fun _ =>?_)
  ·refine T.sat_bind (load_sat fun h6 x6 hx6 => T.sat_bind (next_sat fun h7 x7 hx7 => T.sat_bind (load_sat fun h8 x8 hx8 =>?_)))
   refine T.sat_bind (walkF_sat hg (by omega) fun n9 b h9 h10 =>?_)
   refine T.sat_cond (fun _ =>?_) (fun _ =>?_)
   ·exact T.sat_bind (retire_sat hw fun h11 => ⟨by omega, by omega, rfl⟩)
   ·exact T.sat_bind (store_sat hw fun h11 => T.sat_bind (store_sat hw fun h12 => ⟨by omega, by omega, rfl⟩))
  ·exact T.sat_bind (set_sat hw fun h6 => T.sat_bind (retire_sat hw fun h7 => ⟨hD, sm0⟩))
theorem program_sat (hg : got.length = N) (hN : N ≤ 1000) (hn : n ≤ N) (hs : s.2 = []) (h0 : Dn s held) {o : Opn} (ha : In64 o.a) (hb : In64 o.b) (hr : ¬ (o.kind = 6 ∨ o.kind = 7) → ro = false) : (programTr o c got held).sat N (rule ro) n s QD := by
 unfold programTr
 have e : ∀ {k : Int} {P : Prop}, (o.kind == k) = true → ¬ (k = 6 ∨ k = 7) → ro = false := fun {k P} h h2 => hr (by rw [eq_of_beq h]; exact h2)
 refine T.sat_cond (fun h => T.sat_bind (add_sat hg hn (e (P := True) h (by decide)) hs)) (fun _ =>?_)
 refine T.sat_cond (fun h => T.sat_bind (link_sat hg hn (e (P := True) h (by decide)) hs h0 ha hb)) (fun _ =>?_)
 refine T.sat_cond (fun h => T.sat_bind (cut_sat hg hn (e (P := True) h (by decide)) h0)) (fun _ =>?_)
 refine T.sat_cond (fun h => T.sat_bind (setProp_sat hg hn (e (P := True) h (by decide)) hs h0 ha)) (fun _ =>?_)
 refine T.sat_cond (fun h => T.sat_bind (delProp_sat hg hn (e (P := True) h (by decide)) hs h0 ha)) (fun _ =>?_)
 refine T.sat_cond (fun h => T.sat_bind (lookP_sat hg hN hn hs fun n1 x1 h1 h2 h3 => ⟨h0, h3⟩)) (fun _ =>?_)
 refine T.sat_cond (fun h => T.sat_bind (lookN_sat hg hN hn hs fun n1 x1 h1 h2 h3 => ⟨h0, h3⟩)) (fun _ =>?_)
 refine T.sat_cond (fun h => T.sat_bind (drop_sat hg hN hn (e (P := True) h (by decide)) hs h0 ha)) (fun _ =>?_)
 refine T.sat_cond (fun h => T.sat_bind (fuse_sat hg hN hn (e (P := True) h (by decide)) hs h0 ha hb)) (fun _ => ⟨h0, sm0⟩)
end
theorem T.sat_lift {σ σ2 α : Type} {N : Nat} {st : σ → Acc → Option σ} {st2 : σ2 → Acc → Option σ2} {f : σ → σ2} (hf : ∀ s c s', st s c = some s' → st2 (f s) c = some (f s')) {t : T α} : ∀ {n : Nat} {s : σ} {Q : Nat → σ → α → Prop}, t.sat N st n s Q → t.sat N st2 n (f s) (fun n x a => ∃ s', x = f s' ∧ Q n s' a) := by
 induction t with
 | ret a => intro n s Q h; exact ⟨s, rfl, h⟩
 | ask c k ih => rintro n s Q ⟨s', h1, h2⟩; exact ⟨f s', hf _ _ _ h1, fun hn x hx => ih x (h2 hn x hx)⟩
 | bot => intro n s Q h; exact h
def bare (k : Int) (a : Acc) : Bool := a.kind == k && a.at_ == 0 && a.which == 0 && a.ref == 0 && a.field == 0 && a.value == 0
def ruleR (ro : Bool) (s : Nat × RS) (a : Acc) : Option (Nat × RS) :=
 if s.1 = 0 then (if bare 1 a then some (1, s.2) else none)
 else if s.1 = 1 then (if a.kind = 2 then (if bare 2 a ∧ s.2.2 = [] then some (2, s.2) else none) else (rule ro s.2 a).map fun s' => (1, s'))
 else none
theorem rule_kind {ro : Bool} {s s' : RS} {a : Acc} (h : rule ro s a = some s') : a.kind = 3 ∨ a.kind = 4 ∨ a.kind = 5 ∨ a.kind = 6 ∨ a.kind = 7 ∨ a.kind = 8 ∨ a.kind = 9 := by
 unfold rule at h
 split at h
 ·exact .inl ‹_›
 ·split at h
  ·simp [*]
  ·split at h
   ·simp [*]
   ·split at h
    ·simp [*]
    ·split at h
     ·rename_i h5
      rcases h5 with h5 | h5 | h5 <;> simp [h5]
     ·cases h
theorem run_sat {N : Nat} {ro : Bool} {c : Cfg} {o : Opn} {got : List Int} (hg : got.length = N) (hN : N ≤ 1000) (ha : In64 o.a) (hb : In64 o.b) (hr : ¬ (o.kind = 6 ∨ o.kind = 7) → ro = false) :
  (runTr c o got).sat N (ruleR ro) 0 (0, (false, [])) (fun _ s r => s.1 = 2 ∧ s.2.2 = [] ∧ Sm r) := by
 unfold runTr
 refine T.sat_ask (s' := (1, (false, []))) (by simp [ruleR, bare]) (fun h1 x1 hx1 =>?_)
 refine T.sat_bind (T.sat_mono (T.sat_le (T.sat_lift (f := fun s : RS => ((1, s) : Nat × RS)) (st := rule ro) (fun s c s' h =>?_) (program_sat hg hN h1 (s := (false, [])) rfl ⟨rfl, by simp, fun x hx => (by cases hx)⟩ ha hb hr)) h1) ?_)
 ·have := rule_kind h
  simp only [ruleR]
  rw [if_neg (by decide), if_pos trivial, if_neg (by omega), h]
  rfl
 ·rintro n s ⟨r, held⟩ ⟨h2, h3, s', rfl, hD, hS⟩
  refine T.sat_bind (T.sat_mono (T.sat_lift (f := fun s : RS => ((1, s) : Nat × RS)) (st := rule ro) (fun s c s' h =>?_) (free_sat (Q := fun n' s' _ => n ≤ n' ∧ n' ≤ N ∧ s'.2 = []) hD.1 hD.2.1 h3 (fun n' b h4 h5 => ⟨h4, h5, rfl⟩))) ?_)
  ·have := rule_kind h
   simp only [ruleR]
   rw [if_neg (by decide), if_pos trivial, if_neg (by omega), h]
   rfl
  ·rintro n4 s4 ⟨⟩ ⟨s5, rfl, h4, h5, h6⟩
   refine T.sat_ask (s' := (2, s5)) ?_ (fun _ _ _ => ⟨rfl, h6, hS⟩)
   simp [ruleR, h6, bare]
theorem run_exec {N : Nat} {ro : Bool} {c : Cfg} {o : Opn} {got : List Int} (hg : got.length = N) (hN : N ≤ 1000) (hx : ∀ x ∈ got, In64 x) (ha : In64 o.a) (hb : In64 o.b) (hr : ¬ (o.kind = 6 ∨ o.kind = 7) → ro = false) :
  (∃ r d b, (runTr c o got).exec got [] = .ok r d ∧ ruled (ruleR ro) (0, (false, [])) d = some (2, (b, [])) ∧ d.length ≤ N ∧ Sm r) ∨ (∃ d s, (runTr c o got).exec got [] = .stop d ∧ ruled (ruleR ro) (0, (false, [])) d = some s ∧ d.length = N + 1) := by
 rcases T.sat_exec hg (by omega) hx (d := []) (by simp) (run_sat (c := c) hg hN ha hb hr) with ⟨a, e, ⟨p, b, l⟩, h1, h2, ⟨h3, h4, h6⟩, h5⟩ | ⟨e, s', h1, h2, h3⟩
 ·dsimp only at h3 h4
  subst h3 h4
  exact .inl ⟨a, e, b, by simpa using h1, h2, by simpa using h5, h6⟩
 ·exact .inr ⟨e, s', by simpa using h1, h2, by simpa using h3⟩
end Go.Ax.Cd
