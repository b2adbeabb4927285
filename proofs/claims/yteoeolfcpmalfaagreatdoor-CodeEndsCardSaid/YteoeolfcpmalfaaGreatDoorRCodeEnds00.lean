/- The chapter's example. -/
import Derived.Test.YteoeolfcpmalfaaGreatDoorQ34
import Derived.Test.YteoeolfcpmalfaaGreatDoorQ35
import Derived.KernelRfl
import Derived.Test.YteoeolfcpmalfaaGreatDoorQ21
namespace Go.Ax.Cd
theorem live_ok : liveFTr.val = some true := by kernel_rfl
theorem go_ok {c : Cfg} {o : Opn} {got : List Int} {r : Res} {d : List Acc} (h : (runTr c o got).exec got [] = .ok r d) : goTr c o got = .ret (d, r, true) := by
  unfold goTr
  rw [h]
theorem go_stop {c : Cfg} {o : Opn} {got : List Int} {d : List Acc} (h : (runTr c o got).exec got [] = .stop d) : goTr c o got = .ret (d, rz, false) := by
  unfold goTr
  rw [h]
theorem samePr_refl (a : List Pr) (h : a.length ≤ 1000) : samePrTr a a = .ret true := by
  have key : ∀ (j i f : Nat), i + j = a.length → j < f → T.loop (samePrL0Step a a (Int.ofNat a.length)) f (i : Int) = .ret (.inl ()) := by
    intro j
    induction j with
    | zero =>
      intro i f hi hf
      obtain ⟨f, rfl⟩ : ∃ q, f = q + 1 := ⟨f - 1, by omega⟩
      rw [T.loop]
      unfold samePrL0Step
      dsimp only
      rw [decide_eq_false (by simp; omega), cond_false]
      rfl
    | succ j ih =>
      intro i f hi hf
      obtain ⟨f, rfl⟩ : ∃ q, f = q + 1 := ⟨f - 1, by omega⟩
      have e1 : inR (i : Int) a.length = true := by simp [inR]; omega
      have e2 : w64 ((i : Int) + 1) = ((i + 1 : Nat) : Int) := by rw [w64_id] <;> omega
      have es : samePrL0Step a a (Int.ofNat a.length) (i : Int) = .ret (.inl ((i + 1 : Nat) : Int)) := by
        unfold samePrL0Step
        dsimp only
        rw [decide_eq_true (by simp; omega), cond_true, e1, cond_true, cond_true, e2]
        simp only [beq_self_eq_true, Bool.and_true, Bool.not_true, cond_false]
      rw [T.loop, es]
      exact ih (i + 1) f (by omega) (by omega)
  unfold samePrTr
  have e := key a.length 0 4611686018427387904 (by omega) (by omega)
  rw [show ((0 : Nat) : Int) = 0 from rfl] at e
  rw [e]
  simp [T.bind, selim]
theorem sameEn_refl (a : List En) (h : a.length ≤ 1000) : sameEnTr a a = .ret true := by
  have key : ∀ (j i f : Nat), i + j = a.length → j < f → T.loop (sameEnL0Step a a (Int.ofNat a.length)) f (i : Int) = .ret (.inl ()) := by
    intro j
    induction j with
    | zero =>
      intro i f hi hf
      obtain ⟨f, rfl⟩ : ∃ q, f = q + 1 := ⟨f - 1, by omega⟩
      rw [T.loop]
      unfold sameEnL0Step
      dsimp only
      rw [decide_eq_false (by simp; omega), cond_false]
      rfl
    | succ j ih =>
      intro i f hi hf
      obtain ⟨f, rfl⟩ : ∃ q, f = q + 1 := ⟨f - 1, by omega⟩
      have e1 : inR (i : Int) a.length = true := by simp [inR]; omega
      have e2 : w64 ((i : Int) + 1) = ((i + 1 : Nat) : Int) := by rw [w64_id] <;> omega
      have es : sameEnL0Step a a (Int.ofNat a.length) (i : Int) = .ret (.inl ((i + 1 : Nat) : Int)) := by
        unfold sameEnL0Step
        dsimp only
        rw [decide_eq_true (by simp; omega), cond_true, e1, cond_true, cond_true, e2]
        simp only [beq_self_eq_true, Bool.and_true, Bool.not_true, cond_false]
      rw [T.loop, es]
      exact ih (i + 1) f (by omega) (by omega)
  unfold sameEnTr
  have e := key a.length 0 4611686018427387904 (by omega) (by omega)
  rw [show ((0 : Nat) : Int) = 0 from rfl] at e
  rw [e]
  simp [T.bind, selim]
theorem sameRes_refl {r : Res} (h : Sm r) : sameResTr r r = .ret true := by
  unfold sameResTr
  rw [samePr_refl _ h.1, sameEn_refl _ h.2.1, sameEn_refl _ h.2.2]
  simp [T.bind]
theorem may_ok (c : Cfg) (got : List Int) : ∃ b, mayFTr c got = .ret b ∧ (b = true → got.length ≤ 200) := by
  have key : ∀ {x : Bool} {t : T Bool}, (∃ b, t = .ret b ∧ (b = true → got.length ≤ 200)) → ∃ b, (bif x then t else .ret false) = .ret b ∧ (b = true → got.length ≤ 200) := fun {x t} h => by
    cases x with
    | true => exact h
    | false => exact ⟨false, rfl, fun h => by cases h⟩
  unfold mayFTr
  refine key (key (key (key (key (key (key (key (key (key ⟨_, rfl, fun h => ?_⟩)))))))))
  have := of_decide_eq_true h
  simp at this
  omega
end Go.Ax.Cd
/- What the laws call, in plain Lean. -/
namespace Go.Ax.Cd
set_option linter.unusedVariables false
theorem T.of_val {α : Type} {t : T α} {a : α} (h : t.val = some a) : t = .ret a := by
  cases t with
  | ret b => simp [T.val, T.exec] at h; rw [h]
  | ask c k => simp [T.val, T.exec] at h
  | bot => simp [T.val, T.exec] at h
theorem all_ok {c : Cfg} {o : Opn} {got : List Int} {x : List Acc × Res × Bool} (h : goTr c o got = .ret x) : all_Tr c o got = .ret x.1 := by
  unfold all_Tr
  rw [h]
  rfl
theorem next_okT {c : Cfg} {o : Opn} {got : List Int} {d : List Acc} {r : Res} (h : goTr c o got = .ret (d, r, true)) : next_Tr c o got = .ret (⟨0, 0, 0, 0, 0, 0⟩, r, true) := by
  unfold next_Tr
  rw [h]
  rfl
theorem next_okF {c : Cfg} {o : Opn} {got : List Int} {d : List Acc} (h : goTr c o got = .ret (d, rz, false)) (h0 : 0 < d.length) (h1 : d.length ≤ 2000) : next_Tr c o got = .ret (rdE (EK.st SN.acc) d ((d.length - 1 : Nat) : Int), rz, false) := by
  unfold next_Tr
  rw [h]
  have e1 : w64 (Int.ofNat d.length - 1) = ((d.length - 1 : Nat) : Int) := by
    rw [show Int.ofNat d.length - 1 = ((d.length - 1 : Nat) : Int) by simp; omega]
    rw [w64_id] <;> omega
  have e2 : inR ((d.length - 1 : Nat) : Int) d.length = true := by simp [inR]; omega
  simp only [T.bind, cond_false, e1, e2, cond_true]
end Go.Ax.Cd
/- The rule, case by case. -/
namespace Go.Ax.Cd
set_option linter.unusedVariables false
/-- What the rule says of an access, by its kind. -/
theorem ruleR_cases {ro : Bool} {s s' : Nat × RS} {a : Acc} (h : ruleR ro s a = some s') :
    (s.1 = 0 ∧ bare 1 a = true ∧ s' = (1, s.2)) ∨ (s.1 = 1 ∧ bare 2 a = true ∧ s.2.2 = [] ∧ s' = (2, s.2)) ∨ (s.1 = 1 ∧ ∃ t, rule ro s.2 a = some t ∧ s' = (1, t)) := by
  unfold ruleR at h
  split at h
  · split at h
    · cases h
      exact .inl ⟨‹_›, ‹_›, rfl⟩
    · cases h
  · split at h
    · split at h
      · split at h
        · rename_i hc
          cases h
          exact .inr (.inl ⟨‹_›, hc.1, hc.2, rfl⟩)
        · cases h
      · obtain ⟨t, h1, h2⟩ := Option.map_eq_some_iff.1 h
        exact .inr (.inr ⟨‹_›, t, h1, h2.symm⟩)
    · cases h
theorem bare_kind {k : Int} {a : Acc} (h : bare k a = true) : a.kind = k := by
  simp only [bare, Bool.and_eq_true, beq_iff_eq] at h
  exact h.1.1.1.1.1
theorem bare_at {k : Int} {a : Acc} (h : bare k a = true) : (a.kind == k && (a.at_ == 0 && (a.which == 0 && (a.ref == 0 && (a.field == 0 && (a.value == 0 && true)))))) = true := by
  simp only [bare, Bool.and_eq_true, beq_iff_eq] at h ⊢
  simp [h]
theorem rule_cases {ro : Bool} {s s' : RS} {a : Acc} (h : rule ro s a = some s') : (a.kind = 3 ∧ s' = s) ∨ (a.kind = 7 ∧ s.2 = [] ∧ s' = s) ∨ (a.kind = 5 ∧ s.2 = [] ∧ s' = (false, [a.at_])) ∨ (a.kind = 5 ∧ ∃ t r, s.2 = t :: r ∧ s.1 = false ∧ t < a.at_ ∧ s' = (false, a.at_ :: t :: r)) ∨
    (a.kind = 6 ∧ ∃ r, s.2 = a.at_ :: r ∧ s' = (true, r)) ∨ ((a.kind = 4 ∨ a.kind = 8 ∨ a.kind = 9) ∧ ro = false ∧ s.2 ≠ [] ∧ s' = s) := by
  unfold rule at h
  split at h
  · cases h; exact .inl ⟨‹_›, rfl⟩
  · split at h
    · split at h
      · cases h; exact .inr (.inl ⟨‹_›, ‹_›, rfl⟩)
      · cases h
    · split at h
      · split at h
        · cases h; exact .inr (.inr (.inl ⟨‹_›, ‹_›, rfl⟩))
        · split at h
          · rename_i hc
            cases h
            exact .inr (.inr (.inr (.inl ⟨‹_›, _, _, ‹_›, hc.1, hc.2, rfl⟩)))
          · cases h
      · split at h
        · split at h
          · cases h
          · split at h
            · rename_i hc
              cases h
              exact .inr (.inr (.inr (.inr (.inl ⟨‹_›, _, by rw [← hc]; assumption, rfl⟩))))
            · cases h
        · split at h
          · split at h
            · rename_i hc
              cases h
              exact .inr (.inr (.inr (.inr (.inr ⟨‹_›, hc.1, hc.2, rfl⟩))))
            · cases h
          · cases h
theorem at_mid {d pre e : List Acc} {a : Acc} (h : d = pre ++ a :: e) : rdE (EK.st SN.acc) d (pre.length : Int) = a ∧ inR (pre.length : Int) d.length = true := ⟨rd_at (e := .st .acc) h rfl, inR_at (e := .st .acc) h rfl⟩
/-- The accesses of an operation, ruled. -/
theorem all_ruled {c : Cfg} {o : Opn} {got : List Int} (hN : got.length ≤ 1000) (hx : ∀ x ∈ got, In64 x) (ha : In64 o.a) (hb : In64 o.b) :
    (∃ r d b, goTr c o got = .ret (d, r, true) ∧ ruled (ruleR (decide (o.kind = 6 ∨ o.kind = 7))) (0, (false, [])) d = some (2, (b, [])) ∧ d.length ≤ got.length) ∨
    (∃ d s, goTr c o got = .ret (d, rz, false) ∧ ruled (ruleR (decide (o.kind = 6 ∨ o.kind = 7))) (0, (false, [])) d = some s ∧ d.length = got.length + 1) := by
  rcases run_exec (c := c) (o := o) (ro := decide (o.kind = 6 ∨ o.kind = 7)) rfl hN hx ha hb (fun h => decide_eq_false h) with ⟨r, d, b, h1, h2, h3, _⟩ | ⟨d, s, h1, h2, h3⟩
  · exact .inl ⟨r, d, b, go_ok h1, h2, h3⟩
  · exact .inr ⟨d, s, go_stop h1, h2, h3⟩
end Go.Ax.Cd
/- The package code by contracts (printed by wip/tools/con3.py). -/
namespace Go.Ax.Cd
open Go.Proofs
set_option linter.unusedVariables false
set_option maxRecDepth 100000
abbrev lawEndsL0vs : List Vh := [.s (.e (.sl (.st .acc))), vb, .s (.e (.sl (.st .acc))), vi, vi]
abbrev lawEndsL0os : List OSh := []
noncomputable abbrev lawEndsL0fin : Fin := ((Fin.one 0 Tryz.f6.ntmps (.exit 0) [7, 10] [.s (.e (.sl (.st .acc))), vb] []).or (Fin.one 0 Tryz.f6.ntmps .ret [6] [vb] []))
def lawEndsL0Step (v0 : List Acc) (v1 : Bool) (v2 : List Acc) (v3 : Int) (st : Int) : T ((Int) ⊕ (Unit ⊕ Unit)) :=
 let v4 := st
 bif decide (v4 < v3) then
 bif inR v4 v2.length then
 bif (rdE (EK.st SN.acc) v2 v4).kind == 1 then
 bif decide (v4 > 0) then
 .bot
 else
 bif (rdE (EK.st SN.acc) v2 v4).kind == 2 then
 bif v4 != w64 (Int.ofNat v0.length - 1) then
 .ret (Sum.inr (Sum.inr (())))
 else
 bif decide ((rdE (EK.st SN.acc) v2 v4).kind < 1) then
 .ret (Sum.inr (Sum.inr (())))
 else
 bif decide ((rdE (EK.st SN.acc) v2 v4).kind > 9) then
 .ret (Sum.inr (Sum.inr (())))
 else
 .ret (Sum.inl (w64 (v4 + 1)))
 else
 bif decide ((rdE (EK.st SN.acc) v2 v4).kind < 1) then
 .ret (Sum.inr (Sum.inr (())))
 else
 bif decide ((rdE (EK.st SN.acc) v2 v4).kind > 9) then
 .ret (Sum.inr (Sum.inr (())))
 else
 .ret (Sum.inl (w64 (v4 + 1)))
 else
 bif (rdE (EK.st SN.acc) v2 v4).kind == 2 then
 bif v4 != w64 (Int.ofNat v0.length - 1) then
 .ret (Sum.inr (Sum.inr (())))
 else
 bif decide ((rdE (EK.st SN.acc) v2 v4).kind < 1) then
 .ret (Sum.inr (Sum.inr (())))
 else
 bif decide ((rdE (EK.st SN.acc) v2 v4).kind > 9) then
 .ret (Sum.inr (Sum.inr (())))
 else
 .ret (Sum.inl (w64 (v4 + 1)))
 else
 bif decide ((rdE (EK.st SN.acc) v2 v4).kind < 1) then
 .ret (Sum.inr (Sum.inr (())))
 else
 bif decide ((rdE (EK.st SN.acc) v2 v4).kind > 9) then
 .ret (Sum.inr (Sum.inr (())))
 else
 .ret (Sum.inl (w64 (v4 + 1)))
 else
 .bot
 else
 .ret (Sum.inr (Sum.inl (())))
@[reducible] def lawEndsL0I : PIf (VhL lawEndsL0vs × OShL lawEndsL0os) lawEndsL0fin.Y where
  α := Unit ⊕ Unit
  tr x := T.loop (lawEndsL0Step x.1.1 x.1.2.1 x.1.2.2.1 x.1.2.2.2.1) FU x.1.2.2.2.2.1
  enc x a := match a with | Sum.inl (b) => Sum.inl (((x.1.1, x.1.2.1, ()), ())) | Sum.inr (b) => Sum.inr (((false, ()), ()))
theorem lawEndsL0_raw (sp_next_ : next__T) (sp_all_ : all__T) (sp_mayF : mayF_T) (sp_liveF : liveF_T) (v0 : List Acc) (v1 : Bool) (v2 : List Acc) (v3 : Int) (v4 : Int) : runW 0 Tryz.f6 0 [7, 10, 41, 42, 43] lawEndsL0vs lawEndsL0os lawEndsL0fin [(12, next__C sp_next_), (16, all__C sp_all_), (11, mayF_C sp_mayF), (10, liveF_C sp_liveF)] [] [] (((v0, v1, v2, v3, v4, ()), ()) : VhL lawEndsL0vs × OShL lawEndsL0os) = (bif decide (v4 < v3) then bif inR v4 v2.length then bif (rdE (EK.st SN.acc) v2 v4).kind == 1 then bif decide (v4 > 0) then none else bif (rdE (EK.st SN.acc) v2 v4).kind == 2 then bif v4 != w64 (Int.ofNat v0.length - 1) then some (Sum.inr (Sum.inr ((false, ()), ()))) else bif decide ((rdE (EK.st SN.acc) v2 v4).kind < 1) then some (Sum.inr (Sum.inr ((false, ()), ()))) else bif decide ((rdE (EK.st SN.acc) v2 v4).kind > 9) then some (Sum.inr (Sum.inr ((false, ()), ()))) else some (Sum.inl ((v0, v1, v2, v3, w64 (v4 + 1), ()), ())) else bif decide ((rdE (EK.st SN.acc) v2 v4).kind < 1) then some (Sum.inr (Sum.inr ((false, ()), ()))) else bif decide ((rdE (EK.st SN.acc) v2 v4).kind > 9) then some (Sum.inr (Sum.inr ((false, ()), ()))) else some (Sum.inl ((v0, v1, v2, v3, w64 (v4 + 1), ()), ())) else bif (rdE (EK.st SN.acc) v2 v4).kind == 2 then bif v4 != w64 (Int.ofNat v0.length - 1) then some (Sum.inr (Sum.inr ((false, ()), ()))) else bif decide ((rdE (EK.st SN.acc) v2 v4).kind < 1) then some (Sum.inr (Sum.inr ((false, ()), ()))) else bif decide ((rdE (EK.st SN.acc) v2 v4).kind > 9) then some (Sum.inr (Sum.inr ((false, ()), ()))) else some (Sum.inl ((v0, v1, v2, v3, w64 (v4 + 1), ()), ())) else bif decide ((rdE (EK.st SN.acc) v2 v4).kind < 1) then some (Sum.inr (Sum.inr ((false, ()), ()))) else bif decide ((rdE (EK.st SN.acc) v2 v4).kind > 9) then some (Sum.inr (Sum.inr ((false, ()), ()))) else some (Sum.inl ((v0, v1, v2, v3, w64 (v4 + 1), ()), ())) else none
else some (Sum.inr (Sum.inl ((v0, v1, ()), ())))) := by kernel_rfl
theorem lawEndsL0_ok : LOk Tryz.prog gl 0 (LCon.of Tryz.f6.ntmps [7, 10, 41, 42, 43] lawEndsL0vs lawEndsL0os lawEndsL0fin (PIf.spec lawEndsL0I)) (getL (body Tryz.f6) 0) := by
  refine lwk (Lc := []) (nh := []) (G := [(12, next__C (PIf.spec next_I)), (16, all__C (PIf.spec all_I)), (11, mayF_C (PIf.spec mayFI)), (10, liveF_C (PIf.spec liveFI))]) (GOk.cons next__g next__ok (GOk.cons all__g all__ok (GOk.cons mayF_g mayF_ok (GOk.cons liveF_g liveF_ok (GOk.nil))))) (noloopN (by kernel_rfl)) (Fin.or_ok (Fin.one_ok _ _ _ _) (Fin.one_ok _ _ _ _)) ?_
  rintro ⟨⟨v0, v1, v2, v3, v4, _⟩, _⟩ y hy
  refine ⟨_, loopP_ok (eX := fun (st : Int) => (let v4 := st; ((v0, v1, v2, v3, v4, ()), ()) : VhL lawEndsL0vs × OShL lawEndsL0os)) (body := lawEndsL0Step v0 v1 v2 v3) (fun st => ?_) _ v4 y hy⟩
  revert st
  intro v4
  refine (lawEndsL0_raw (PIf.spec next_I) (PIf.spec all_I) (PIf.spec mayFI) (PIf.spec liveFI) v0 v1 v2 v3 v4).trans ?_
  unfold lawEndsL0Step
  repeat' (first | refine cond_outP (fun _ => ?_) (fun _ => ?_) | rfl)
def lawEndsTr (c : Cfg) (o : Opn) (got : List Int) : T (Bool) :=
 (liveFTr).bind fun x0 =>
 bif !x0 then
 .ret false
 else
 (mayFTr c got).bind fun x1 =>
 bif !x1 then
 .ret true
 else
 (all_Tr c o got).bind fun x2 =>
 (next_Tr c o got).bind fun x3 =>
 bif Int.ofNat x2.length == 0 then
 .ret false
 else
 bif inR 0 x2.length then
 bif !((rdE (EK.st SN.acc) x2 0).kind == 1 && ((rdE (EK.st SN.acc) x2 0).at_ == 0 && ((rdE (EK.st SN.acc) x2 0).which == 0 && ((rdE (EK.st SN.acc) x2 0).ref == 0 && ((rdE (EK.st SN.acc) x2 0).field == 0 && ((rdE (EK.st SN.acc) x2 0).value == 0 && true)))))) then
 .ret false
 else
 (T.loop (lawEndsL0Step x2 x3.2.2 x2 (Int.ofNat x2.length)) 4611686018427387904 0).bind fun b4 => selim b4
 (fun x4 => bif !x3.2.2 then
 .ret true
 else
 bif inR (w64 (Int.ofNat x2.length - 1)) x2.length then
 .ret ((rdE (EK.st SN.acc) x2 (w64 (Int.ofNat x2.length - 1))).kind == 2 && ((rdE (EK.st SN.acc) x2 (w64 (Int.ofNat x2.length - 1))).at_ == 0 && ((rdE (EK.st SN.acc) x2 (w64 (Int.ofNat x2.length - 1))).which == 0 && ((rdE (EK.st SN.acc) x2 (w64 (Int.ofNat x2.length - 1))).ref == 0 && ((rdE (EK.st SN.acc) x2 (w64 (Int.ofNat x2.length - 1))).field == 0 && ((rdE (EK.st SN.acc) x2 (w64 (Int.ofNat x2.length - 1))).value == 0 && true))))))
 else
 .bot)
 (fun y4 => .ret false)
 else
 .bot
@[reducible] def lawEndsI : PIf (VhL [.s (.e (.st .cfg)), .s (.e (.st .opn)), .s (.e (.sl .int))] × OShL []) (VhL [vb] × OShL []) where
  α := Bool
  tr x := lawEndsTr x.1.1 x.1.2.1 x.1.2.2.1
  enc x a := ((a, ()), ())
abbrev lawEnds_T : Type := VhL [.s (.e (.st .cfg)), .s (.e (.st .opn)), .s (.e (.sl .int))] × OShL [] → Option (VhL [vb] × OShL [])
noncomputable abbrev lawEnds_C (sp : lawEnds_T) : Con := Con.of [.s (.e (.st .cfg)), .s (.e (.st .opn)), .s (.e (.sl .int))] [] [vb] [] sp
theorem lawEnds_raw (sp_next_ : next__T) (sp_all_ : all__T) (sp_mayF : mayF_T) (sp_liveF : liveF_T) (sp_lawEndsL0 : VhL lawEndsL0vs × OShL lawEndsL0os → Option lawEndsL0fin.Y) (c : Cfg) (o : Opn) (got : List Int) : runN Tryz.f6 [.s (.e (.st .cfg)), .s (.e (.st .opn)), .s (.e (.sl .int))] [] [vb] [] [(12, next__C sp_next_), (16, all__C sp_all_), (11, mayF_C sp_mayF), (10, liveF_C sp_liveF)] [(10, LCon.of Tryz.f6.ntmps [7, 10, 41, 42, 43] lawEndsL0vs lawEndsL0os lawEndsL0fin sp_lawEndsL0)] [] (((c, o, got, ()), ()) : VhL [.s (.e (.st .cfg)), .s (.e (.st .opn)), .s (.e (.sl .int))] × OShL []) = ((sp_liveF ((), ())).bind fun val => bif !val.1.1 then some ((false, ()), ()) else (sp_mayF ((c, got, ()), ())).bind fun val => bif !val.1.1 then some ((true, ()), ()) else (sp_all_ ((c, o, got, ()), ())).bind fun val => (sp_next_ ((c, o, got, ()), ())).bind fun val_1 => bif Int.ofNat (List.length val.1.1) == 0 then some ((false, ()), ()) else bif inR 0 (List.length val.1.1) then bif !((rdE (EK.st SN.acc) val.1.1 0).kind == 1 && ((rdE (EK.st SN.acc) val.1.1 0).at_ == 0 && ((rdE (EK.st SN.acc) val.1.1 0).which == 0 && ((rdE (EK.st SN.acc) val.1.1 0).ref == 0 && ((rdE (EK.st SN.acc) val.1.1 0).field == 0 && ((rdE (EK.st SN.acc) val.1.1 0).value == 0 && true)))))) then some ((false, ()), ()) else (sp_lawEndsL0 ((val.1.1, val_1.1.2.2.1, val.1.1, Int.ofNat (List.length val.1.1), 0, ()), ())).bind fun val => selim val (fun val => bif !val.1.2.1 then some ((true, ()), ()) else bif inR (w64 (Int.ofNat (List.length val.1.1) - 1)) (List.length val.1.1) then some (((rdE (EK.st SN.acc) val.1.1 (w64 (Int.ofNat (List.length val.1.1) - 1))).kind == 2 && ((rdE (EK.st SN.acc) val.1.1 (w64 (Int.ofNat (List.length val.1.1) - 1))).at_ == 0 && ((rdE (EK.st SN.acc) val.1.1 (w64 (Int.ofNat (List.length val.1.1) - 1))).which == 0 && ((rdE (EK.st SN.acc) val.1.1 (w64 (Int.ofNat (List.length val.1.1) - 1))).ref == 0 && ((rdE (EK.st SN.acc) val.1.1 (w64 (Int.ofNat (List.length val.1.1) - 1))).field == 0 && ((rdE (EK.st SN.acc) val.1.1 (w64 (Int.ofNat (List.length val.1.1) - 1))).value == 0 && true))))), ()), ()) else none) fun val => some ((val.1.1, ()), ()) else none) := by kernel_rfl
theorem lawEnds_ok : Sound Tryz.prog gl 6 (lawEnds_C (PIf.spec lawEndsI)) := by
  refine cnk (fn := Tryz.f6) (G := [(12, next__C (PIf.spec next_I)), (16, all__C (PIf.spec all_I)), (11, mayF_C (PIf.spec mayFI)), (10, liveF_C (PIf.spec liveFI))]) (GOk.cons next__g next__ok (GOk.cons all__g all__ok (GOk.cons mayF_g mayF_ok (GOk.cons liveF_g liveF_ok (GOk.nil))))) (by kernel_rfl) (by kernel_rfl) (Lc := [(10, LCon.of Tryz.f6.ntmps [7, 10, 41, 42, 43] lawEndsL0vs lawEndsL0os lawEndsL0fin (PIf.spec lawEndsL0I))]) (nh := []) (lcok (bs := [getL (body Tryz.f6) 0]) (by kernel_rfl) ⟨lone_ok (q := (10, LCon.of Tryz.f6.ntmps [7, 10, 41, 42, 43] lawEndsL0vs lawEndsL0os lawEndsL0fin (PIf.spec lawEndsL0I))) (by kernel_rfl) lawEndsL0_ok, trivial⟩) ?_
  rintro ⟨⟨c, o, got, _⟩, _⟩
  refine (lawEnds_raw (PIf.spec next_I) (PIf.spec all_I) (PIf.spec mayFI) (PIf.spec liveFI) (PIf.spec lawEndsL0I) c o got).trans ?_
  show _ = ((lawEndsTr c o got).val).map (lawEndsI.enc ((c, o, got, ()), ()))
  unfold lawEndsTr
  refine bindP (fun x0 => ?_)
  dsimp only [selim, cond_true, cond_false, Bool.not_true, Bool.not_false, one, none1, mI, next_I, all_I, mayFI, liveFI, lawEndsL0I]
  refine cond_outP (fun _ => ?_) (fun _ => ?_)
  · rfl
  · refine bindP (fun x1 => ?_)
    dsimp only [selim, cond_true, cond_false, Bool.not_true, Bool.not_false, one, none1, mI, next_I, all_I, mayFI, liveFI, lawEndsL0I]
    refine cond_outP (fun _ => ?_) (fun _ => ?_)
    · rfl
    · refine bindP (fun x2 => ?_)
      dsimp only [selim, cond_true, cond_false, Bool.not_true, Bool.not_false, one, none1, mI, next_I, all_I, mayFI, liveFI, lawEndsL0I]
      refine bindP (fun x3 => ?_)
      dsimp only [selim, cond_true, cond_false, Bool.not_true, Bool.not_false, one, none1, mI, next_I, all_I, mayFI, liveFI, lawEndsL0I]
      refine cond_outP (fun _ => ?_) (fun _ => ?_)
      · rfl
      · refine cond_outP (fun _ => ?_) (fun _ => ?_)
        · refine cond_outP (fun _ => ?_) (fun _ => ?_)
          · rfl
          · refine bindP (fun b4 => ?_)
            rcases b4 with x4 | y4
            · dsimp only [selim, cond_true, cond_false, Bool.not_true, Bool.not_false, one, none1, mI, next_I, all_I, mayFI, liveFI, lawEndsL0I]
              try (first | refine (cond_t rfl).trans ?_ | refine (cond_f rfl).trans ?_)
              refine cond_outP (fun _ => ?_) (fun _ => ?_)
              · rfl
              · refine cond_outP (fun _ => ?_) (fun _ => ?_)
                · rfl
                · rfl
            · dsimp only [selim, cond_true, cond_false, Bool.not_true, Bool.not_false, one, none1, mI, next_I, all_I, mayFI, liveFI, lawEndsL0I]
              try (first | refine (cond_t rfl).trans ?_ | refine (cond_f rfl).trans ?_)
              rfl
        · rfl
end Go.Ax.Cd
/- CodeEnds, in plain Lean. -/
namespace Go.Ax.Cd
set_option linter.unusedVariables false
theorem kind_of {ro : Bool} {s s' : Nat × RS} {a : Acc} (h : ruleR ro s a = some s') : (s.1 = 0 ∧ a.kind = 1 ∧ s'.1 = 1) ∨ (s.1 = 1 ∧ a.kind = 2 ∧ s'.1 = 2) ∨ (s.1 = 1 ∧ 3 ≤ a.kind ∧ a.kind ≤ 9 ∧ s'.1 = 1) := by
  rcases ruleR_cases h with ⟨h1, hb, rfl⟩ | ⟨h1, hb, _, rfl⟩ | ⟨h1, t, ht, rfl⟩
  · exact .inl ⟨h1, bare_kind hb, rfl⟩
  · exact .inr (.inl ⟨h1, bare_kind hb, rfl⟩)
  · have := rule_kind ht
    exact .inr (.inr ⟨h1, by omega, by omega, rfl⟩)
theorem ruled_two {ro : Bool} {s s' : Nat × RS} (hs : s.1 = 2) {e : List Acc} (h : ruled (ruleR ro) s e = some s') : e = [] := by
  cases e with
  | nil => rfl
  | cons a e =>
    simp only [ruled] at h
    obtain ⟨s1, h1, _⟩ := Option.bind_eq_some_iff.1 h
    rcases kind_of h1 with h2 | h2 | h2 <;> omega
theorem ends_loop {ro fl : Bool} {d : List Acc} (hd : d.length ≤ 2000) : ∀ (e pre : List Acc) (s s' : Nat × RS) (k : Nat), d = pre ++ e → ruled (ruleR ro) s e = some s' → (s.1 = 0 ↔ pre = []) → e.length < k →
    (T.loop (lawEndsL0Step d fl d (Int.ofNat d.length)) k (pre.length : Int)).val = some (.inl ())
  | [], pre, s, s', k, hp, h, hs, hk => by
    obtain ⟨k, rfl⟩ : ∃ k', k = k' + 1 := ⟨k - 1, by simp at hk; omega⟩
    refine loop_end ?_
    have c : decide ((pre.length : Int) < Int.ofNat d.length) = false := decide_eq_false (by rw [hp]; simp)
    simp only [lawEndsL0Step, c, cond_false, T.val_ret]
  | a :: e, pre, s, s', k, hp, h, hs, hk => by
    obtain ⟨k, rfl⟩ : ∃ k', k = k' + 1 := ⟨k - 1, by simp at hk; omega⟩
    simp only [ruled] at h
    obtain ⟨s1, h1, h2⟩ := Option.bind_eq_some_iff.1 h
    obtain ⟨q1, q2⟩ := at_mid hp
    have hlen : d.length = pre.length + (e.length + 1) := by rw [hp]; simp
    have c : decide ((pre.length : Int) < Int.ofNat d.length) = true := decide_eq_true (by simp; omega)
    have e1 : w64 ((pre.length : Int) + 1) = ((pre ++ [a]).length : Int) := by rw [w64_id] <;> (try simp) <;> omega
    have hst : (lawEndsL0Step d fl d (Int.ofNat d.length) (pre.length : Int)).val = some (.inl ((pre ++ [a]).length : Int)) := by
      rcases kind_of h1 with ⟨j1, j2, j3⟩ | ⟨j1, j2, j3⟩ | ⟨j1, j2, j2', j3⟩
      · have : pre = [] := hs.1 j1
        subst this
        simp only [lawEndsL0Step, c, cond_true, q1, q2, j2, e1]
        rfl
      · have he := ruled_two j3 h2
        subst he
        have e2 : ((pre.length : Int) != w64 (Int.ofNat d.length - 1)) = false := by
          have : w64 (Int.ofNat d.length - 1) = (pre.length : Int) := by
            simp only [Int.ofNat_eq_natCast]
            rw [hlen, w64_id] <;> simp <;> omega
          rw [this]
          simp
        simp only [lawEndsL0Step, c, cond_true, q1, q2, j2, e1, e2]
        rfl
      · have k1 : (a.kind == 1) = false := by simp; omega
        have k2 : (a.kind == 2) = false := by simp; omega
        have k3 : decide (a.kind < 1) = false := decide_eq_false (by omega)
        have k4 : decide (a.kind > 9) = false := decide_eq_false (by omega)
        simp only [lawEndsL0Step, c, cond_true, cond_false, q1, q2, k1, k2, k3, k4, e1, T.val_ret]
    refine loop_step hst (ends_loop hd e (pre ++ [a]) s1 s' k (by rw [hp]; simp) h2 ?_ (by simp at hk; omega))
    have : s1.1 ≠ 0 := by rcases kind_of h1 with h | h | h <;> omega
    constructor
    · intro h; exact absurd h this
    · intro h; simp at h
theorem last_end {ro : Bool} {b : Bool} {l : List Int} : ∀ (d : List Acc) (s : Nat × RS), s.1 ≤ 1 → ruled (ruleR ro) s d = some (2, (b, l)) → ∃ d' a, d = d' ++ [a] ∧ bare 2 a = true
  | [], s, hs, h => by
    simp only [ruled, Option.some.injEq] at h
    rw [h] at hs
    simp at hs
  | a :: d, s, hs, h => by
    simp only [ruled] at h
    obtain ⟨s1, h1, h2⟩ := Option.bind_eq_some_iff.1 h
    by_cases c : s1.1 ≤ 1
    · obtain ⟨d', x, rfl, hx⟩ := last_end d s1 c h2
      exact ⟨a :: d', x, rfl, hx⟩
    · have j : s1.1 = 2 := by rcases kind_of h1 with h | h | h <;> omega
      have := ruled_two j h2
      subst this
      refine ⟨[], a, rfl, ?_⟩
      rcases ruleR_cases h1 with ⟨_, _, rfl⟩ | ⟨_, hb, _, _⟩ | ⟨_, t, _, rfl⟩
      · simp at j
      · exact hb
      · simp at j
theorem lawEnds_true {c : Cfg} {o : Opn} {got : List Int} (hx : ∀ x ∈ got, In64 x) (ha : In64 o.a) (hb : In64 o.b) : (lawEndsTr c o got).val = some true := by
  unfold lawEndsTr
  rw [T.of_val live_ok]
  simp only [T.bind, Bool.not_true, cond_false]
  obtain ⟨b, hm, h200⟩ := may_ok c got
  rw [hm]
  simp only [T.bind]
  cases b with
  | false => rfl
  | true =>
    have hN := h200 rfl
    simp only [Bool.not_true, cond_false]
    have first : ∀ {d : List Acc} {s : Nat × RS}, 0 < d.length → ruled (ruleR (decide (o.kind = 6 ∨ o.kind = 7))) (0, (false, [])) d = some s → bare 1 (rdE (EK.st SN.acc) d 0) = true ∧ inR 0 d.length = true := fun {d s} h0 h => by
      cases d with
      | nil => simp at h0
      | cons a d =>
        simp only [ruled] at h
        obtain ⟨s1, h1, h2⟩ := Option.bind_eq_some_iff.1 h
        refine ⟨?_, by simp [inR]⟩
        rcases ruleR_cases h1 with ⟨_, hb, _⟩ | ⟨h, _⟩ | ⟨h, _⟩
        · exact hb
        · simp at h
        · simp at h
    rcases all_ruled (c := c) (o := o) (by omega) hx ha hb with ⟨r, d, b, h1, h2, h3⟩ | ⟨d, s, h1, h2, h3⟩
    · obtain ⟨d', a, rfl, hba⟩ := last_end d _ (by simp) h2
      have h0 : 0 < (d' ++ [a]).length := by simp
      obtain ⟨f1, f2⟩ := first h0 h2
      rw [all_ok h1, next_okT h1]
      simp only [T.bind]
      have c1 : (Int.ofNat (d' ++ [a]).length == 0) = false := beq_false_of_ne (fun h => by have h9 : ((d' ++ [a]).length : Int) = 0 := h; omega)
      have c2 : w64 (Int.ofNat (d' ++ [a]).length - 1) = (d'.length : Int) := by
        simp only [Int.ofNat_eq_natCast]
        rw [w64_id] <;> simp at h3 ⊢ <;> omega
      obtain ⟨q1, q2⟩ := at_mid (d := d' ++ [a]) (pre := d') (e := []) rfl
      have hl : (T.loop (lawEndsL0Step (d' ++ [a]) true (d' ++ [a]) (Int.ofNat (d' ++ [a]).length)) 4611686018427387904 0).val = _ := ends_loop (fl := true) (d := d' ++ [a]) (by omega) (d' ++ [a]) [] (0, (false, [])) _ 4611686018427387904 rfl h2 (by simp) (by omega)
      rw [c1, cond_false, f2, cond_true, bare_at f1, Bool.not_true, cond_false, T.val_bind, hl, Option.bind_some]
      simp only [selim, cond_false, c2, q2, cond_true, q1, bare_at hba]
      rfl
    · have h0 : 0 < d.length := by omega
      obtain ⟨f1, f2⟩ := first h0 h2
      rw [all_ok h1, next_okF h1 h0 (by omega)]
      simp only [T.bind]
      have c1 : (Int.ofNat d.length == 0) = false := beq_false_of_ne (fun h => by have h9 : (d.length : Int) = 0 := h; omega)
      have hl : (T.loop (lawEndsL0Step d false d (Int.ofNat d.length)) 4611686018427387904 0).val = _ := ends_loop (fl := false) (d := d) (by omega) d [] (0, (false, [])) _ 4611686018427387904 rfl h2 (by simp) (by omega)
      rw [c1, cond_false, f2, cond_true, bare_at f1, Bool.not_true, cond_false, T.val_bind, hl, Option.bind_some]
      simp only [selim, Bool.not_false, cond_true]
      rfl
end Go.Ax.Cd
