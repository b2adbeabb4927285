/- The chapter's example. -/
import Derived.Test.YteoeolfcpmalfaaGreatDoorQ34
import Derived.Test.YteoeolfcpmalfaaGreatDoorQ35
import Derived.KernelRfl
import Derived.Test.YteoeolfcpmalfaaGreatDoorQ21
namespace Go.Ax.Cd
theorem live_ok : liveFTr.val = some true := by kernel_rfl
theorem go_ok {c : Cfg} {o : Opn} {got : List Int} {r : Res} {d : List Acc} (h : (runTr c o got).exec got [] = .ok r d) : goTr c o got = .ret (d, r, true) := by
  unfold goTr
  rw [h]
theorem go_stop {c : Cfg} {o : Opn} {got : List Int} {d : List Acc} (h : (runTr c o got).exec got [] = .stop d) : goTr c o got = .ret (d, rz, false) := by
  unfold goTr
  rw [h]
theorem samePr_refl (a : List Pr) (h : a.length ≤ 1000) : samePrTr a a = .ret true := by
  have key : ∀ (j i f : Nat), i + j = a.length → j < f → T.loop (samePrL0Step a a (Int.ofNat a.length)) f (i : Int) = .ret (.inl ()) := by
    intro j
    induction j with
    | zero =>
      intro i f hi hf
      obtain ⟨f, rfl⟩ : ∃ q, f = q + 1 := ⟨f - 1, by omega⟩
      rw [T.loop]
      unfold samePrL0Step
      dsimp only
      rw [decide_eq_false (by simp; omega), cond_false]
      rfl
    | succ j ih =>
      intro i f hi hf
      obtain ⟨f, rfl⟩ : ∃ q, f = q + 1 := ⟨f - 1, by omega⟩
      have e1 : inR (i : Int) a.length = true := by simp [inR]; omega
      have e2 : w64 ((i : Int) + 1) = ((i + 1 : Nat) : Int) := by rw [w64_id] <;> omega
      have es : samePrL0Step a a (Int.ofNat a.length) (i : Int) = .ret (.inl ((i + 1 : Nat) : Int)) := by
        unfold samePrL0Step
        dsimp only
        rw [decide_eq_true (by simp; omega), cond_true, e1, cond_true, cond_true, e2]
        simp only [beq_self_eq_true, Bool.and_true, Bool.not_true, cond_false]
      rw [T.loop, es]
      exact ih (i + 1) f (by omega) (by omega)
  unfold samePrTr
  have e := key a.length 0 4611686018427387904 (by omega) (by omega)
  rw [show ((0 : Nat) : Int) = 0 from rfl] at e
  rw [e]
  simp [T.bind, selim]
theorem sameEn_refl (a : List En) (h : a.length ≤ 1000) : sameEnTr a a = .ret true := by
  have key : ∀ (j i f : Nat), i + j = a.length → j < f → T.loop (sameEnL0Step a a (Int.ofNat a.length)) f (i : Int) = .ret (.inl ()) := by
    intro j
    induction j with
    | zero =>
      intro i f hi hf
      obtain ⟨f, rfl⟩ : ∃ q, f = q + 1 := ⟨f - 1, by omega⟩
      rw [T.loop]
      unfold sameEnL0Step
      dsimp only
      rw [decide_eq_false (by simp; omega), cond_false]
      rfl
    | succ j ih =>
      intro i f hi hf
      obtain ⟨f, rfl⟩ : ∃ q, f = q + 1 := ⟨f - 1, by omega⟩
      have e1 : inR (i : Int) a.length = true := by simp [inR]; omega
      have e2 : w64 ((i : Int) + 1) = ((i + 1 : Nat) : Int) := by rw [w64_id] <;> omega
      have es : sameEnL0Step a a (Int.ofNat a.length) (i : Int) = .ret (.inl ((i + 1 : Nat) : Int)) := by
        unfold sameEnL0Step
        dsimp only
        rw [decide_eq_true (by simp; omega), cond_true, e1, cond_true, cond_true, e2]
        simp only [beq_self_eq_true, Bool.and_true, Bool.not_true, cond_false]
      rw [T.loop, es]
      exact ih (i + 1) f (by omega) (by omega)
  unfold sameEnTr
  have e := key a.length 0 4611686018427387904 (by omega) (by omega)
  rw [show ((0 : Nat) : Int) = 0 from rfl] at e
  rw [e]
  simp [T.bind, selim]
theorem sameRes_refl {r : Res} (h : Sm r) : sameResTr r r = .ret true := by
  unfold sameResTr
  rw [samePr_refl _ h.1, sameEn_refl _ h.2.1, sameEn_refl _ h.2.2]
  simp [T.bind]
theorem may_ok (c : Cfg) (got : List Int) : ∃ b, mayFTr c got = .ret b ∧ (b = true → got.length ≤ 200) := by
  have key : ∀ {x : Bool} {t : T Bool}, (∃ b, t = .ret b ∧ (b = true → got.length ≤ 200)) → ∃ b, (bif x then t else .ret false) = .ret b ∧ (b = true → got.length ≤ 200) := fun {x t} h => by
    cases x with
    | true => exact h
    | false => exact ⟨false, rfl, fun h => by cases h⟩
  unfold mayFTr
  refine key (key (key (key (key (key (key (key (key (key ⟨_, rfl, fun h => ?_⟩)))))))))
  have := of_decide_eq_true h
  simp at this
  omega
end Go.Ax.Cd
/- What the laws call, in plain Lean. -/
namespace Go.Ax.Cd
set_option linter.unusedVariables false
theorem T.of_val {α : Type} {t : T α} {a : α} (h : t.val = some a) : t = .ret a := by
  cases t with
  | ret b => simp [T.val, T.exec] at h; rw [h]
  | ask c k => simp [T.val, T.exec] at h
  | bot => simp [T.val, T.exec] at h
theorem all_ok {c : Cfg} {o : Opn} {got : List Int} {x : List Acc × Res × Bool} (h : goTr c o got = .ret x) : all_Tr c o got = .ret x.1 := by
  unfold all_Tr
  rw [h]
  rfl
theorem next_okT {c : Cfg} {o : Opn} {got : List Int} {d : List Acc} {r : Res} (h : goTr c o got = .ret (d, r, true)) : next_Tr c o got = .ret (⟨0, 0, 0, 0, 0, 0⟩, r, true) := by
  unfold next_Tr
  rw [h]
  rfl
theorem next_okF {c : Cfg} {o : Opn} {got : List Int} {d : List Acc} (h : goTr c o got = .ret (d, rz, false)) (h0 : 0 < d.length) (h1 : d.length ≤ 2000) : next_Tr c o got = .ret (rdE (EK.st SN.acc) d ((d.length - 1 : Nat) : Int), rz, false) := by
  unfold next_Tr
  rw [h]
  have e1 : w64 (Int.ofNat d.length - 1) = ((d.length - 1 : Nat) : Int) := by
    rw [show Int.ofNat d.length - 1 = ((d.length - 1 : Nat) : Int) by simp; omega]
    rw [w64_id] <;> omega
  have e2 : inR ((d.length - 1 : Nat) : Int) d.length = true := by simp [inR]; omega
  simp only [T.bind, cond_false, e1, e2, cond_true]
end Go.Ax.Cd
/- The rule, case by case. -/
namespace Go.Ax.Cd
set_option linter.unusedVariables false
/-- What the rule says of an access, by its kind. -/
theorem ruleR_cases {ro : Bool} {s s' : Nat × RS} {a : Acc} (h : ruleR ro s a = some s') :
    (s.1 = 0 ∧ bare 1 a = true ∧ s' = (1, s.2)) ∨ (s.1 = 1 ∧ bare 2 a = true ∧ s.2.2 = [] ∧ s' = (2, s.2)) ∨ (s.1 = 1 ∧ ∃ t, rule ro s.2 a = some t ∧ s' = (1, t)) := by
  unfold ruleR at h
  split at h
  · split at h
    · cases h
      exact .inl ⟨‹_›, ‹_›, rfl⟩
    · cases h
  · split at h
    · split at h
      · split at h
        · rename_i hc
          cases h
          exact .inr (.inl ⟨‹_›, hc.1, hc.2, rfl⟩)
        · cases h
      · obtain ⟨t, h1, h2⟩ := Option.map_eq_some_iff.1 h
        exact .inr (.inr ⟨‹_›, t, h1, h2.symm⟩)
    · cases h
theorem bare_kind {k : Int} {a : Acc} (h : bare k a = true) : a.kind = k := by
  simp only [bare, Bool.and_eq_true, beq_iff_eq] at h
  exact h.1.1.1.1.1
theorem bare_at {k : Int} {a : Acc} (h : bare k a = true) : (a.kind == k && (a.at_ == 0 && (a.which == 0 && (a.ref == 0 && (a.field == 0 && (a.value == 0 && true)))))) = true := by
  simp only [bare, Bool.and_eq_true, beq_iff_eq] at h ⊢
  simp [h]
theorem rule_cases {ro : Bool} {s s' : RS} {a : Acc} (h : rule ro s a = some s') : (a.kind = 3 ∧ s' = s) ∨ (a.kind = 7 ∧ s.2 = [] ∧ s' = s) ∨ (a.kind = 5 ∧ s.2 = [] ∧ s' = (false, [a.at_])) ∨ (a.kind = 5 ∧ ∃ t r, s.2 = t :: r ∧ s.1 = false ∧ t < a.at_ ∧ s' = (false, a.at_ :: t :: r)) ∨
    (a.kind = 6 ∧ ∃ r, s.2 = a.at_ :: r ∧ s' = (true, r)) ∨ ((a.kind = 4 ∨ a.kind = 8 ∨ a.kind = 9) ∧ ro = false ∧ s.2 ≠ [] ∧ s' = s) := by
  unfold rule at h
  split at h
  · cases h; exact .inl ⟨‹_›, rfl⟩
  · split at h
    · split at h
      · cases h; exact .inr (.inl ⟨‹_›, ‹_›, rfl⟩)
      · cases h
    · split at h
      · split at h
        · cases h; exact .inr (.inr (.inl ⟨‹_›, ‹_›, rfl⟩))
        · split at h
          · rename_i hc
            cases h
            exact .inr (.inr (.inr (.inl ⟨‹_›, _, _, ‹_›, hc.1, hc.2, rfl⟩)))
          · cases h
      · split at h
        · split at h
          · cases h
          · split at h
            · rename_i hc
              cases h
              exact .inr (.inr (.inr (.inr (.inl ⟨‹_›, _, by rw [← hc]; assumption, rfl⟩))))
            · cases h
        · split at h
          · split at h
            · rename_i hc
              cases h
              exact .inr (.inr (.inr (.inr (.inr ⟨‹_›, hc.1, hc.2, rfl⟩))))
            · cases h
          · cases h
theorem at_mid {d pre e : List Acc} {a : Acc} (h : d = pre ++ a :: e) : rdE (EK.st SN.acc) d (pre.length : Int) = a ∧ inR (pre.length : Int) d.length = true := ⟨rd_at (e := .st .acc) h rfl, inR_at (e := .st .acc) h rfl⟩
/-- The accesses of an operation, ruled. -/
theorem all_ruled {c : Cfg} {o : Opn} {got : List Int} (hN : got.length ≤ 1000) (hx : ∀ x ∈ got, In64 x) (ha : In64 o.a) (hb : In64 o.b) :
    (∃ r d b, goTr c o got = .ret (d, r, true) ∧ ruled (ruleR (decide (o.kind = 6 ∨ o.kind = 7))) (0, (false, [])) d = some (2, (b, [])) ∧ d.length ≤ got.length) ∨
    (∃ d s, goTr c o got = .ret (d, rz, false) ∧ ruled (ruleR (decide (o.kind = 6 ∨ o.kind = 7))) (0, (false, [])) d = some s ∧ d.length = got.length + 1) := by
  rcases run_exec (c := c) (o := o) (ro := decide (o.kind = 6 ∨ o.kind = 7)) rfl hN hx ha hb (fun h => decide_eq_false h) with ⟨r, d, b, h1, h2, h3, _⟩ | ⟨d, s, h1, h2, h3⟩
  · exact .inl ⟨r, d, b, go_ok h1, h2, h3⟩
  · exact .inr ⟨d, s, go_stop h1, h2, h3⟩
end Go.Ax.Cd
/- The package code by contracts (printed by wip/tools/con3.py). -/
namespace Go.Ax.Cd
open Go.Proofs
set_option linter.unusedVariables false
set_option maxRecDepth 100000
abbrev lawWritesL0vs : List Vh := [pm, vi, .s (.e (.sl (.st .acc))), vi, vi]
abbrev lawWritesL0os : List OSh := [.box [.e (.st .opn)]]
noncomputable abbrev lawWritesL0fin : Fin := ((Fin.one 0 Tryz.f7.ntmps (.exit 0) [] [] []).or (Fin.one 0 Tryz.f7.ntmps .ret [6] [vb] []))
def lawWritesL0Step (v2 : List Acc) (v3 : Int) (v5 : Opn) (st : Int × Int) : T ((Int × Int) ⊕ (Unit ⊕ Unit)) :=
 let v1 := st.1
 let v4 := st.2
 bif decide (v4 < v3) then
 bif inR v4 v2.length then
 bif (rdE (EK.st SN.acc) v2 v4).kind == 5 then
 .ret (Sum.inl (w64 (v1 + 1), w64 (v4 + 1)))
 else
 bif (rdE (EK.st SN.acc) v2 v4).kind == 6 then
 .ret (Sum.inl (w64 (v1 - 1), w64 (v4 + 1)))
 else
 bif (rdE (EK.st SN.acc) v2 v4).kind == 4 then
 bif (rdE (EK.st SN.acc) v2 v4).kind == 4 then
 bif decide (v1 < 1) then
 .ret (Sum.inr (Sum.inr (())))
 else
 bif v5.kind == 6 then
 .ret (Sum.inr (Sum.inr (())))
 else
 bif v5.kind == 7 then
 .ret (Sum.inr (Sum.inr (())))
 else
 .ret (Sum.inl (v1, w64 (v4 + 1)))
 else
 .ret (Sum.inl (v1, w64 (v4 + 1)))
 else
 bif (rdE (EK.st SN.acc) v2 v4).kind == 8 then
 bif (rdE (EK.st SN.acc) v2 v4).kind == 8 then
 bif decide (v1 < 1) then
 .ret (Sum.inr (Sum.inr (())))
 else
 bif v5.kind == 6 then
 .ret (Sum.inr (Sum.inr (())))
 else
 bif v5.kind == 7 then
 .ret (Sum.inr (Sum.inr (())))
 else
 .ret (Sum.inl (v1, w64 (v4 + 1)))
 else
 .ret (Sum.inl (v1, w64 (v4 + 1)))
 else
 bif (rdE (EK.st SN.acc) v2 v4).kind == 9 then
 bif decide (v1 < 1) then
 .ret (Sum.inr (Sum.inr (())))
 else
 bif v5.kind == 6 then
 .ret (Sum.inr (Sum.inr (())))
 else
 bif v5.kind == 7 then
 .ret (Sum.inr (Sum.inr (())))
 else
 .ret (Sum.inl (v1, w64 (v4 + 1)))
 else
 .ret (Sum.inl (v1, w64 (v4 + 1)))
 else
 .bot
 else
 .ret (Sum.inr (Sum.inl (())))
@[reducible] def lawWritesL0I : PIf (VhL lawWritesL0vs × OShL lawWritesL0os) lawWritesL0fin.Y where
  α := Unit ⊕ Unit
  tr x := T.loop (lawWritesL0Step x.1.2.2.1 x.1.2.2.2.1 x.2.1.1) FU (x.1.2.1, x.1.2.2.2.2.1)
  enc x a := match a with | Sum.inl (b) => Sum.inl (((), ())) | Sum.inr (b) => Sum.inr (((false, ()), ()))
theorem lawWritesL0_raw (sp_all_ : all__T) (sp_mayF : mayF_T) (sp_liveF : liveF_T) (v1 : Int) (v2 : List Acc) (v3 : Int) (v4 : Int) (v5 : Opn) : runW 0 Tryz.f7 0 [4, 7, 19, 20, 21] lawWritesL0vs lawWritesL0os lawWritesL0fin [(16, all__C sp_all_), (11, mayF_C sp_mayF), (10, liveF_C sp_liveF)] [] [] ((((), v1, v2, v3, v4, ()), ((v5, ()), ())) : VhL lawWritesL0vs × OShL lawWritesL0os) = (bif decide (v4 < v3) then bif inR v4 v2.length then bif (rdE (EK.st SN.acc) v2 v4).kind == 5 then some (Sum.inl (((), w64 (v1 + 1), v2, v3, w64 (v4 + 1), ()), (v5, ()), ())) else bif (rdE (EK.st SN.acc) v2 v4).kind == 6 then some (Sum.inl (((), w64 (v1 - 1), v2, v3, w64 (v4 + 1), ()), (v5, ()), ())) else bif (rdE (EK.st SN.acc) v2 v4).kind == 4 then bif (rdE (EK.st SN.acc) v2 v4).kind == 4 then bif decide (v1 < 1) then some (Sum.inr (Sum.inr ((false, ()), ()))) else bif v5.kind == 6 then some (Sum.inr (Sum.inr ((false, ()), ()))) else bif v5.kind == 7 then some (Sum.inr (Sum.inr ((false, ()), ()))) else some (Sum.inl (((), v1, v2, v3, w64 (v4 + 1), ()), (v5, ()), ())) else some (Sum.inl (((), v1, v2, v3, w64 (v4 + 1), ()), (v5, ()), ())) else bif (rdE (EK.st SN.acc) v2 v4).kind == 8 then bif (rdE (EK.st SN.acc) v2 v4).kind == 8 then bif decide (v1 < 1) then some (Sum.inr (Sum.inr ((false, ()), ()))) else bif v5.kind == 6 then some (Sum.inr (Sum.inr ((false, ()), ()))) else bif v5.kind == 7 then some (Sum.inr (Sum.inr ((false, ()), ()))) else some (Sum.inl (((), v1, v2, v3, w64 (v4 + 1), ()), (v5, ()), ())) else some (Sum.inl (((), v1, v2, v3, w64 (v4 + 1), ()), (v5, ()), ())) else bif (rdE (EK.st SN.acc) v2 v4).kind == 9 then bif decide (v1 < 1) then some (Sum.inr (Sum.inr ((false, ()), ()))) else bif v5.kind == 6 then some (Sum.inr (Sum.inr ((false, ()), ()))) else bif v5.kind == 7 then some (Sum.inr (Sum.inr ((false, ()), ()))) else some (Sum.inl (((), v1, v2, v3, w64 (v4 + 1), ()), (v5, ()), ())) else some (Sum.inl (((), v1, v2, v3, w64 (v4 + 1), ()), (v5, ()), ())) else none
else some (Sum.inr (Sum.inl ((), ())))) := by kernel_rfl
theorem lawWritesL0_ok : LOk Tryz.prog gl 0 (LCon.of Tryz.f7.ntmps [4, 7, 19, 20, 21] lawWritesL0vs lawWritesL0os lawWritesL0fin (PIf.spec lawWritesL0I)) (getL (body Tryz.f7) 0) := by
  refine lwk (Lc := []) (nh := []) (G := [(16, all__C (PIf.spec all_I)), (11, mayF_C (PIf.spec mayFI)), (10, liveF_C (PIf.spec liveFI))]) (GOk.cons all__g all__ok (GOk.cons mayF_g mayF_ok (GOk.cons liveF_g liveF_ok (GOk.nil)))) (noloopN (by kernel_rfl)) (Fin.or_ok (Fin.one_ok _ _ _ _) (Fin.one_ok _ _ _ _)) ?_
  rintro ⟨⟨_, v1, v2, v3, v4, _⟩, ⟨⟨v5, _⟩, _⟩⟩ y hy
  refine ⟨_, loopP_ok (eX := fun (st : Int × Int) => (let v1 := st.1; let v4 := st.2; (((), v1, v2, v3, v4, ()), ((v5, ()), ())) : VhL lawWritesL0vs × OShL lawWritesL0os)) (body := lawWritesL0Step v2 v3 v5) (fun st => ?_) _ (v1, v4) y hy⟩
  obtain ⟨v1, v4⟩ := st
  refine (lawWritesL0_raw (PIf.spec all_I) (PIf.spec mayFI) (PIf.spec liveFI) v1 v2 v3 v4 v5).trans ?_
  unfold lawWritesL0Step
  repeat' (first | refine cond_outP (fun _ => ?_) (fun _ => ?_) | rfl)
def lawWritesTr (c : Cfg) (o : Opn) (got : List Int) : T (Bool) :=
 (liveFTr).bind fun x0 =>
 bif !x0 then
 .ret false
 else
 (mayFTr c got).bind fun x1 =>
 bif !x1 then
 .ret true
 else
 (all_Tr c o got).bind fun x2 =>
 (T.loop (lawWritesL0Step x2 (Int.ofNat x2.length) o) 4611686018427387904 (0, 0)).bind fun b3 => selim b3
 (fun x3 => .ret true)
 (fun y3 => .ret false)
@[reducible] def lawWritesI : PIf (VhL [.s (.e (.st .cfg)), .s (.e (.st .opn)), .s (.e (.sl .int))] × OShL []) (VhL [vb] × OShL []) where
  α := Bool
  tr x := lawWritesTr x.1.1 x.1.2.1 x.1.2.2.1
  enc x a := ((a, ()), ())
abbrev lawWrites_T : Type := VhL [.s (.e (.st .cfg)), .s (.e (.st .opn)), .s (.e (.sl .int))] × OShL [] → Option (VhL [vb] × OShL [])
noncomputable abbrev lawWrites_C (sp : lawWrites_T) : Con := Con.of [.s (.e (.st .cfg)), .s (.e (.st .opn)), .s (.e (.sl .int))] [] [vb] [] sp
theorem lawWrites_raw (sp_all_ : all__T) (sp_mayF : mayF_T) (sp_liveF : liveF_T) (sp_lawWritesL0 : VhL lawWritesL0vs × OShL lawWritesL0os → Option lawWritesL0fin.Y) (c : Cfg) (o : Opn) (got : List Int) : runN Tryz.f7 [.s (.e (.st .cfg)), .s (.e (.st .opn)), .s (.e (.sl .int))] [] [vb] [] [(16, all__C sp_all_), (11, mayF_C sp_mayF), (10, liveF_C sp_liveF)] [(7, LCon.of Tryz.f7.ntmps [4, 7, 19, 20, 21] lawWritesL0vs lawWritesL0os lawWritesL0fin sp_lawWritesL0)] [] (((c, o, got, ()), ()) : VhL [.s (.e (.st .cfg)), .s (.e (.st .opn)), .s (.e (.sl .int))] × OShL []) = ((sp_liveF ((), ())).bind fun val => bif !val.1.1 then some ((false, ()), ()) else (sp_mayF ((c, got, ()), ())).bind fun val => bif !val.1.1 then some ((true, ()), ()) else (sp_all_ ((c, o, got, ()), ())).bind fun val => (sp_lawWritesL0 (((), 0, val.1.1, Int.ofNat (List.length val.1.1), 0, ()), (o, ()), ())).bind fun val => selim val (fun val => some ((true, ()), ())) fun val => some ((val.1.1, ()), ())) := by kernel_rfl
theorem lawWrites_ok : Sound Tryz.prog gl 7 (lawWrites_C (PIf.spec lawWritesI)) := by
  refine cnk (fn := Tryz.f7) (G := [(16, all__C (PIf.spec all_I)), (11, mayF_C (PIf.spec mayFI)), (10, liveF_C (PIf.spec liveFI))]) (GOk.cons all__g all__ok (GOk.cons mayF_g mayF_ok (GOk.cons liveF_g liveF_ok (GOk.nil)))) (by kernel_rfl) (by kernel_rfl) (Lc := [(7, LCon.of Tryz.f7.ntmps [4, 7, 19, 20, 21] lawWritesL0vs lawWritesL0os lawWritesL0fin (PIf.spec lawWritesL0I))]) (nh := []) (lcok (bs := [getL (body Tryz.f7) 0]) (by kernel_rfl) ⟨lone_ok (q := (7, LCon.of Tryz.f7.ntmps [4, 7, 19, 20, 21] lawWritesL0vs lawWritesL0os lawWritesL0fin (PIf.spec lawWritesL0I))) (by kernel_rfl) lawWritesL0_ok, trivial⟩) ?_
  rintro ⟨⟨c, o, got, _⟩, _⟩
  refine (lawWrites_raw (PIf.spec all_I) (PIf.spec mayFI) (PIf.spec liveFI) (PIf.spec lawWritesL0I) c o got).trans ?_
  show _ = ((lawWritesTr c o got).val).map (lawWritesI.enc ((c, o, got, ()), ()))
  unfold lawWritesTr
  refine bindP (fun x0 => ?_)
  dsimp only [selim, cond_true, cond_false, Bool.not_true, Bool.not_false, one, none1, mI, all_I, mayFI, liveFI, lawWritesL0I]
  refine cond_outP (fun _ => ?_) (fun _ => ?_)
  · rfl
  · refine bindP (fun x1 => ?_)
    dsimp only [selim, cond_true, cond_false, Bool.not_true, Bool.not_false, one, none1, mI, all_I, mayFI, liveFI, lawWritesL0I]
    refine cond_outP (fun _ => ?_) (fun _ => ?_)
    · rfl
    · refine bindP (fun x2 => ?_)
      dsimp only [selim, cond_true, cond_false, Bool.not_true, Bool.not_false, one, none1, mI, all_I, mayFI, liveFI, lawWritesL0I]
      refine bindP (fun b3 => ?_)
      rcases b3 with x3 | y3
      · dsimp only [selim, cond_true, cond_false, Bool.not_true, Bool.not_false, one, none1, mI, all_I, mayFI, liveFI, lawWritesL0I]
        try (first | refine (cond_t rfl).trans ?_ | refine (cond_f rfl).trans ?_)
        rfl
      · dsimp only [selim, cond_true, cond_false, Bool.not_true, Bool.not_false, one, none1, mI, all_I, mayFI, liveFI, lawWritesL0I]
        try (first | refine (cond_t rfl).trans ?_ | refine (cond_f rfl).trans ?_)
        rfl
end Go.Ax.Cd
/- CodeWrites, in plain Lean. -/
namespace Go.Ax.Cd
set_option linter.unusedVariables false
/-! ### CodeWrites -/
theorem writes_loop {d : List Acc} {o : Opn} (hd : d.length ≤ 2000) : ∀ (e pre : List Acc) (s s' : Nat × RS) (k : Nat), d = pre ++ e → ruled (ruleR (decide (o.kind = 6 ∨ o.kind = 7))) s e = some s' → s.2.2.length ≤ pre.length → e.length < k →
    (T.loop (lawWritesL0Step d (Int.ofNat d.length) o) k ((s.2.2.length : Int), (pre.length : Int))).val = some (.inl ())
  | [], pre, s, s', k, hp, h, hl, hk => by
    obtain ⟨k, rfl⟩ : ∃ k', k = k' + 1 := ⟨k - 1, by simp at hk; omega⟩
    refine loop_end ?_
    have c : decide ((pre.length : Int) < Int.ofNat d.length) = false := decide_eq_false (by rw [hp]; simp)
    simp only [lawWritesL0Step, c, cond_false, T.val_ret]
  | a :: e, pre, s, s', k, hp, h, hl, hk => by
    obtain ⟨k, rfl⟩ : ∃ k', k = k' + 1 := ⟨k - 1, by simp at hk; omega⟩
    simp only [ruled] at h
    obtain ⟨s1, h1, h2⟩ := Option.bind_eq_some_iff.1 h
    obtain ⟨q1, q2⟩ := at_mid hp
    have hlen : d.length = pre.length + (e.length + 1) := by rw [hp]; simp
    have c : decide ((pre.length : Int) < Int.ofNat d.length) = true := decide_eq_true (by simp; omega)
    have e1 : w64 ((pre.length : Int) + 1) = ((pre ++ [a]).length : Int) := by rw [w64_id] <;> (try simp) <;> omega
    have e2 : w64 ((s.2.2.length : Int) + 1) = (s.2.2.length : Int) + 1 := by rw [w64_id] <;> omega
    have hs1 : s1.2.2.length ≤ (pre ++ [a]).length ∧ (lawWritesL0Step d (Int.ofNat d.length) o ((s.2.2.length : Int), (pre.length : Int))).val = some (.inl ((s1.2.2.length : Int), ((pre ++ [a]).length : Int))) := by
      rcases ruleR_cases h1 with ⟨_, hb, rfl⟩ | ⟨_, hb, _, rfl⟩ | ⟨_, t, ht, rfl⟩
      · refine ⟨by simp; omega, ?_⟩
        simp only [lawWritesL0Step, c, cond_true, q1, q2, bare_kind hb, e1] <;> rfl
      · refine ⟨by simp; omega, ?_⟩
        simp only [lawWritesL0Step, c, cond_true, q1, q2, bare_kind hb, e1] <;> rfl
      · rcases rule_cases ht with ⟨hk1, rfl⟩ | ⟨hk1, _, rfl⟩ | ⟨hk1, hn, rfl⟩ | ⟨hk1, t', r, hn, _, _, rfl⟩ | ⟨hk1, r, hn, rfl⟩ | ⟨hk1, hro, hn, rfl⟩
        · refine ⟨by simp; omega, ?_⟩
          simp only [lawWritesL0Step, c, cond_true, q1, q2, hk1, e1] <;> rfl
        · refine ⟨by simp; omega, ?_⟩
          simp only [lawWritesL0Step, c, cond_true, q1, q2, hk1, e1] <;> rfl
        · refine ⟨by simp, ?_⟩
          simp only [lawWritesL0Step, c, cond_true, q1, q2, hk1, e1, e2]
          rw [hn]
          rfl
        · refine ⟨by rw [hn] at hl; simp at hl ⊢; omega, ?_⟩
          simp only [lawWritesL0Step, c, cond_true, q1, q2, hk1, e1, e2]
          rw [hn]
          simp [T.val_ret]
        · refine ⟨by rw [hn] at hl; simp at hl ⊢; omega, ?_⟩
          have e3 : w64 ((s.2.2.length : Int) - 1) = (r.length : Int) := by rw [hn] at hl ⊢; simp at hl; rw [w64_id] <;> (try simp) <;> omega
          simp only [lawWritesL0Step, c, cond_true, q1, q2, hk1, e1, e3] <;> rfl
        · refine ⟨by simp; omega, ?_⟩
          have hro' := of_decide_eq_false hro
          have c2 : decide ((s.2.2.length : Int) < 1) = false := decide_eq_false (by
            have : 0 < s.2.2.length := List.length_pos_iff.2 hn
            omega)
          have n6 : (o.kind == 6) = false := by simp; omega
          have n7 : (o.kind == 7) = false := by simp; omega
          rcases hk1 with hk1 | hk1 | hk1 <;> simp only [lawWritesL0Step, c, cond_true, q1, q2, hk1, e1, c2, n6, n7] <;> rfl
    exact loop_step hs1.2 (writes_loop hd e (pre ++ [a]) s1 s' k (by rw [hp]; simp) h2 hs1.1 (by simp at hk; omega))
theorem lawWrites_true {c : Cfg} {o : Opn} {got : List Int} (hx : ∀ x ∈ got, In64 x) (ha : In64 o.a) (hb : In64 o.b) : (lawWritesTr c o got).val = some true := by
  unfold lawWritesTr
  rw [T.of_val live_ok]
  simp only [T.bind, Bool.not_true, cond_false]
  obtain ⟨b, hm, h200⟩ := may_ok c got
  rw [hm]
  simp only [T.bind]
  cases b with
  | false => rfl
  | true =>
    have hN := h200 rfl
    simp only [Bool.not_true, cond_false]
    have key : ∀ (d : List Acc) (x : Res × Bool) (s : Nat × RS), goTr c o got = .ret (d, x) → ruled (ruleR (decide (o.kind = 6 ∨ o.kind = 7))) (0, (false, [])) d = some s → d.length ≤ got.length + 1 →
        ((all_Tr c o got).bind fun x2 => (T.loop (lawWritesL0Step x2 (Int.ofNat x2.length) o) 4611686018427387904 (0, 0)).bind fun b3 => selim b3 (fun x3 => .ret true) (fun y3 => .ret false)).val = some true := fun d x s h1 h2 h3 => by
      rw [all_ok h1]
      simp only [T.bind]
      rw [T.val_bind, show ((0 : Int), (0 : Int)) = ((([] : List Int).length : Int), (([] : List Acc).length : Int)) from rfl, writes_loop (d := d) (by omega) d [] (0, (false, [])) s 4611686018427387904 rfl h2 (Nat.le_refl _) (by omega)]
      rfl
    rcases all_ruled (c := c) (o := o) (by omega) hx ha hb with ⟨r, d, b, h1, h2, h3⟩ | ⟨d, s, h1, h2, h3⟩
    · exact key d (r, true) _ h1 h2 (by omega)
    · exact key d (rz, false) s h1 h2 (by omega)
end Go.Ax.Cd
