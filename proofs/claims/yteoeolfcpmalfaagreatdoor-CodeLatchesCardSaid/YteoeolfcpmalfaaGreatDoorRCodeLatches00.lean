/- The chapter's example. -/
import Derived.Test.YteoeolfcpmalfaaGreatDoorQ34
import Derived.Test.YteoeolfcpmalfaaGreatDoorQ35
import Derived.KernelRfl
import Derived.Test.YteoeolfcpmalfaaGreatDoorQ21
namespace Go.Ax.Cd
theorem live_ok : liveFTr.val = some true := by kernel_rfl
theorem go_ok {c : Cfg} {o : Opn} {got : List Int} {r : Res} {d : List Acc} (h : (runTr c o got).exec got [] = .ok r d) : goTr c o got = .ret (d, r, true) := by
  unfold goTr
  rw [h]
theorem go_stop {c : Cfg} {o : Opn} {got : List Int} {d : List Acc} (h : (runTr c o got).exec got [] = .stop d) : goTr c o got = .ret (d, rz, false) := by
  unfold goTr
  rw [h]
theorem samePr_refl (a : List Pr) (h : a.length ≤ 1000) : samePrTr a a = .ret true := by
  have key : ∀ (j i f : Nat), i + j = a.length → j < f → T.loop (samePrL0Step a a (Int.ofNat a.length)) f (i : Int) = .ret (.inl ()) := by
    intro j
    induction j with
    | zero =>
      intro i f hi hf
      obtain ⟨f, rfl⟩ : ∃ q, f = q + 1 := ⟨f - 1, by omega⟩
      rw [T.loop]
      unfold samePrL0Step
      dsimp only
      rw [decide_eq_false (by simp; omega), cond_false]
      rfl
    | succ j ih =>
      intro i f hi hf
      obtain ⟨f, rfl⟩ : ∃ q, f = q + 1 := ⟨f - 1, by omega⟩
      have e1 : inR (i : Int) a.length = true := by simp [inR]; omega
      have e2 : w64 ((i : Int) + 1) = ((i + 1 : Nat) : Int) := by rw [w64_id] <;> omega
      have es : samePrL0Step a a (Int.ofNat a.length) (i : Int) = .ret (.inl ((i + 1 : Nat) : Int)) := by
        unfold samePrL0Step
        dsimp only
        rw [decide_eq_true (by simp; omega), cond_true, e1, cond_true, cond_true, e2]
        simp only [beq_self_eq_true, Bool.and_true, Bool.not_true, cond_false]
      rw [T.loop, es]
      exact ih (i + 1) f (by omega) (by omega)
  unfold samePrTr
  have e := key a.length 0 4611686018427387904 (by omega) (by omega)
  rw [show ((0 : Nat) : Int) = 0 from rfl] at e
  rw [e]
  simp [T.bind, selim]
theorem sameEn_refl (a : List En) (h : a.length ≤ 1000) : sameEnTr a a = .ret true := by
  have key : ∀ (j i f : Nat), i + j = a.length → j < f → T.loop (sameEnL0Step a a (Int.ofNat a.length)) f (i : Int) = .ret (.inl ()) := by
    intro j
    induction j with
    | zero =>
      intro i f hi hf
      obtain ⟨f, rfl⟩ : ∃ q, f = q + 1 := ⟨f - 1, by omega⟩
      rw [T.loop]
      unfold sameEnL0Step
      dsimp only
      rw [decide_eq_false (by simp; omega), cond_false]
      rfl
    | succ j ih =>
      intro i f hi hf
      obtain ⟨f, rfl⟩ : ∃ q, f = q + 1 := ⟨f - 1, by omega⟩
      have e1 : inR (i : Int) a.length = true := by simp [inR]; omega
      have e2 : w64 ((i : Int) + 1) = ((i + 1 : Nat) : Int) := by rw [w64_id] <;> omega
      have es : sameEnL0Step a a (Int.ofNat a.length) (i : Int) = .ret (.inl ((i + 1 : Nat) : Int)) := by
        unfold sameEnL0Step
        dsimp only
        rw [decide_eq_true (by simp; omega), cond_true, e1, cond_true, cond_true, e2]
        simp only [beq_self_eq_true, Bool.and_true, Bool.not_true, cond_false]
      rw [T.loop, es]
      exact ih (i + 1) f (by omega) (by omega)
  unfold sameEnTr
  have e := key a.length 0 4611686018427387904 (by omega) (by omega)
  rw [show ((0 : Nat) : Int) = 0 from rfl] at e
  rw [e]
  simp [T.bind, selim]
theorem sameRes_refl {r : Res} (h : Sm r) : sameResTr r r = .ret true := by
  unfold sameResTr
  rw [samePr_refl _ h.1, sameEn_refl _ h.2.1, sameEn_refl _ h.2.2]
  simp [T.bind]
theorem may_ok (c : Cfg) (got : List Int) : ∃ b, mayFTr c got = .ret b ∧ (b = true → got.length ≤ 200) := by
  have key : ∀ {x : Bool} {t : T Bool}, (∃ b, t = .ret b ∧ (b = true → got.length ≤ 200)) → ∃ b, (bif x then t else .ret false) = .ret b ∧ (b = true → got.length ≤ 200) := fun {x t} h => by
    cases x with
    | true => exact h
    | false => exact ⟨false, rfl, fun h => by cases h⟩
  unfold mayFTr
  refine key (key (key (key (key (key (key (key (key (key ⟨_, rfl, fun h => ?_⟩)))))))))
  have := of_decide_eq_true h
  simp at this
  omega
end Go.Ax.Cd
/- What the laws call, in plain Lean. -/
namespace Go.Ax.Cd
set_option linter.unusedVariables false
theorem T.of_val {α : Type} {t : T α} {a : α} (h : t.val = some a) : t = .ret a := by
  cases t with
  | ret b => simp [T.val, T.exec] at h; rw [h]
  | ask c k => simp [T.val, T.exec] at h
  | bot => simp [T.val, T.exec] at h
theorem all_ok {c : Cfg} {o : Opn} {got : List Int} {x : List Acc × Res × Bool} (h : goTr c o got = .ret x) : all_Tr c o got = .ret x.1 := by
  unfold all_Tr
  rw [h]
  rfl
theorem next_okT {c : Cfg} {o : Opn} {got : List Int} {d : List Acc} {r : Res} (h : goTr c o got = .ret (d, r, true)) : next_Tr c o got = .ret (⟨0, 0, 0, 0, 0, 0⟩, r, true) := by
  unfold next_Tr
  rw [h]
  rfl
theorem next_okF {c : Cfg} {o : Opn} {got : List Int} {d : List Acc} (h : goTr c o got = .ret (d, rz, false)) (h0 : 0 < d.length) (h1 : d.length ≤ 2000) : next_Tr c o got = .ret (rdE (EK.st SN.acc) d ((d.length - 1 : Nat) : Int), rz, false) := by
  unfold next_Tr
  rw [h]
  have e1 : w64 (Int.ofNat d.length - 1) = ((d.length - 1 : Nat) : Int) := by
    rw [show Int.ofNat d.length - 1 = ((d.length - 1 : Nat) : Int) by simp; omega]
    rw [w64_id] <;> omega
  have e2 : inR ((d.length - 1 : Nat) : Int) d.length = true := by simp [inR]; omega
  simp only [T.bind, cond_false, e1, e2, cond_true]
end Go.Ax.Cd
/- The rule, case by case. -/
namespace Go.Ax.Cd
set_option linter.unusedVariables false
/-- What the rule says of an access, by its kind. -/
theorem ruleR_cases {ro : Bool} {s s' : Nat × RS} {a : Acc} (h : ruleR ro s a = some s') :
    (s.1 = 0 ∧ bare 1 a = true ∧ s' = (1, s.2)) ∨ (s.1 = 1 ∧ bare 2 a = true ∧ s.2.2 = [] ∧ s' = (2, s.2)) ∨ (s.1 = 1 ∧ ∃ t, rule ro s.2 a = some t ∧ s' = (1, t)) := by
  unfold ruleR at h
  split at h
  · split at h
    · cases h
      exact .inl ⟨‹_›, ‹_›, rfl⟩
    · cases h
  · split at h
    · split at h
      · split at h
        · rename_i hc
          cases h
          exact .inr (.inl ⟨‹_›, hc.1, hc.2, rfl⟩)
        · cases h
      · obtain ⟨t, h1, h2⟩ := Option.map_eq_some_iff.1 h
        exact .inr (.inr ⟨‹_›, t, h1, h2.symm⟩)
    · cases h
theorem bare_kind {k : Int} {a : Acc} (h : bare k a = true) : a.kind = k := by
  simp only [bare, Bool.and_eq_true, beq_iff_eq] at h
  exact h.1.1.1.1.1
theorem bare_at {k : Int} {a : Acc} (h : bare k a = true) : (a.kind == k && (a.at_ == 0 && (a.which == 0 && (a.ref == 0 && (a.field == 0 && (a.value == 0 && true)))))) = true := by
  simp only [bare, Bool.and_eq_true, beq_iff_eq] at h ⊢
  simp [h]
theorem rule_cases {ro : Bool} {s s' : RS} {a : Acc} (h : rule ro s a = some s') : (a.kind = 3 ∧ s' = s) ∨ (a.kind = 7 ∧ s.2 = [] ∧ s' = s) ∨ (a.kind = 5 ∧ s.2 = [] ∧ s' = (false, [a.at_])) ∨ (a.kind = 5 ∧ ∃ t r, s.2 = t :: r ∧ s.1 = false ∧ t < a.at_ ∧ s' = (false, a.at_ :: t :: r)) ∨
    (a.kind = 6 ∧ ∃ r, s.2 = a.at_ :: r ∧ s' = (true, r)) ∨ ((a.kind = 4 ∨ a.kind = 8 ∨ a.kind = 9) ∧ ro = false ∧ s.2 ≠ [] ∧ s' = s) := by
  unfold rule at h
  split at h
  · cases h; exact .inl ⟨‹_›, rfl⟩
  · split at h
    · split at h
      · cases h; exact .inr (.inl ⟨‹_›, ‹_›, rfl⟩)
      · cases h
    · split at h
      · split at h
        · cases h; exact .inr (.inr (.inl ⟨‹_›, ‹_›, rfl⟩))
        · split at h
          · rename_i hc
            cases h
            exact .inr (.inr (.inr (.inl ⟨‹_›, _, _, ‹_›, hc.1, hc.2, rfl⟩)))
          · cases h
      · split at h
        · split at h
          · cases h
          · split at h
            · rename_i hc
              cases h
              exact .inr (.inr (.inr (.inr (.inl ⟨‹_›, _, by rw [← hc]; assumption, rfl⟩))))
            · cases h
        · split at h
          · split at h
            · rename_i hc
              cases h
              exact .inr (.inr (.inr (.inr (.inr ⟨‹_›, hc.1, hc.2, rfl⟩))))
            · cases h
          · cases h
theorem at_mid {d pre e : List Acc} {a : Acc} (h : d = pre ++ a :: e) : rdE (EK.st SN.acc) d (pre.length : Int) = a ∧ inR (pre.length : Int) d.length = true := ⟨rd_at (e := .st .acc) h rfl, inR_at (e := .st .acc) h rfl⟩
/-- The accesses of an operation, ruled. -/
theorem all_ruled {c : Cfg} {o : Opn} {got : List Int} (hN : got.length ≤ 1000) (hx : ∀ x ∈ got, In64 x) (ha : In64 o.a) (hb : In64 o.b) :
    (∃ r d b, goTr c o got = .ret (d, r, true) ∧ ruled (ruleR (decide (o.kind = 6 ∨ o.kind = 7))) (0, (false, [])) d = some (2, (b, [])) ∧ d.length ≤ got.length) ∨
    (∃ d s, goTr c o got = .ret (d, rz, false) ∧ ruled (ruleR (decide (o.kind = 6 ∨ o.kind = 7))) (0, (false, [])) d = some s ∧ d.length = got.length + 1) := by
  rcases run_exec (c := c) (o := o) (ro := decide (o.kind = 6 ∨ o.kind = 7)) rfl hN hx ha hb (fun h => decide_eq_false h) with ⟨r, d, b, h1, h2, h3, _⟩ | ⟨d, s, h1, h2, h3⟩
  · exact .inl ⟨r, d, b, go_ok h1, h2, h3⟩
  · exact .inr ⟨d, s, go_stop h1, h2, h3⟩
end Go.Ax.Cd
/- The package code by contracts (printed by wip/tools/con3.py). -/
namespace Go.Ax.Cd
open Go.Proofs
set_option linter.unusedVariables false
set_option maxRecDepth 100000
abbrev ordCheckL0vs : List Vh := [.s (.lent .int), .s (.lent .int), vi, vi]
abbrev ordCheckL0os : List OSh := []
noncomputable abbrev ordCheckL0fin : Fin := ((Fin.one 0 Tryz.f19.ntmps (.exit 0) [] [] []).or (Fin.one 0 Tryz.f19.ntmps .ret [2] [vi] []))
def ordCheckL0Step (v0 : List Int) (v1 : List Int) (v2 : Int) (st : Int) : T ((Int) ⊕ (Unit ⊕ Unit)) :=
 let v3 := st
 bif decide (v3 < v2) then
 bif inR v3 v1.length then
 bif decide (v3 > 0) then
 bif inR (w64 (v3 - 1)) v0.length then
 bif decide (rdE EK.int v1 v3 ≤ rdE EK.int v0 (w64 (v3 - 1))) then
 .ret (Sum.inr (Sum.inr (())))
 else
 .ret (Sum.inl (w64 (v3 + 1)))
 else
 .bot
 else
 .ret (Sum.inl (w64 (v3 + 1)))
 else
 .bot
 else
 .ret (Sum.inr (Sum.inl (())))
@[reducible] def ordCheckL0I : PIf (VhL ordCheckL0vs × OShL ordCheckL0os) ordCheckL0fin.Y where
  α := Unit ⊕ Unit
  tr x := T.loop (ordCheckL0Step x.1.1 x.1.2.1 x.1.2.2.1) FU x.1.2.2.2.1
  enc x a := match a with | Sum.inl (b) => Sum.inl (((), ())) | Sum.inr (b) => Sum.inr (((1, ()), ()))
theorem ordCheckL0_raw (v0 : List Int) (v1 : List Int) (v2 : Int) (v3 : Int) : runW 0 Tryz.f19 0 [0, 5, 6, 7] ordCheckL0vs ordCheckL0os ordCheckL0fin [] [] [] (((v0, v1, v2, v3, ()), ()) : VhL ordCheckL0vs × OShL ordCheckL0os) = (bif decide (v3 < v2) then bif inR v3 v1.length then bif decide (v3 > 0) then bif inR (w64 (v3 - 1)) v0.length then bif decide (rdE EK.int v1 v3 ≤ rdE EK.int v0 (w64 (v3 - 1))) then some (Sum.inr (Sum.inr ((1, ()), ()))) else some (Sum.inl ((v0, v1, v2, w64 (v3 + 1), ()), ())) else none else some (Sum.inl ((v0, v1, v2, w64 (v3 + 1), ()), ())) else none
else some (Sum.inr (Sum.inl ((), ())))) := by kernel_rfl
theorem ordCheckL0_ok : LOk Tryz.prog gl 0 (LCon.of Tryz.f19.ntmps [0, 5, 6, 7] ordCheckL0vs ordCheckL0os ordCheckL0fin (PIf.spec ordCheckL0I)) (getL (body Tryz.f19) 0) := by
  refine lwk (Lc := []) (nh := []) (G := []) (GOk.nil) (noloopN (by kernel_rfl)) (Fin.or_ok (Fin.one_ok _ _ _ _) (Fin.one_ok _ _ _ _)) ?_
  rintro ⟨⟨v0, v1, v2, v3, _⟩, _⟩ y hy
  refine ⟨_, loopP_ok (eX := fun (st : Int) => (let v3 := st; ((v0, v1, v2, v3, ()), ()) : VhL ordCheckL0vs × OShL ordCheckL0os)) (body := ordCheckL0Step v0 v1 v2) (fun st => ?_) _ v3 y hy⟩
  revert st
  intro v3
  refine (ordCheckL0_raw v0 v1 v2 v3).trans ?_
  unfold ordCheckL0Step
  repeat' (first | refine cond_outP (fun _ => ?_) (fun _ => ?_) | rfl)
def ordCheckTr (s : List Int) : T (Int) :=
 (T.loop (ordCheckL0Step s s (Int.ofNat s.length)) 4611686018427387904 0).bind fun b0 => selim b0
 (fun x0 => .ret 0)
 (fun y0 => .ret 1)
@[reducible] def ordCheckI : PIf (VhL [.s (.lent .int)] × OShL []) (VhL [vi] × OShL []) where
  α := Int
  tr x := ordCheckTr x.1.1
  enc x a := ((a, ()), ())
abbrev ordCheck_T : Type := VhL [.s (.lent .int)] × OShL [] → Option (VhL [vi] × OShL [])
noncomputable abbrev ordCheck_C (sp : ordCheck_T) : Con := Con.of [.s (.lent .int)] [] [vi] [] sp
theorem ordCheck_g : Callable Tryz.prog 19 := ⟨Tryz.f19, body Tryz.f19, by kernel_rfl, by kernel_rfl, by kernel_rfl⟩
theorem ordCheck_raw (sp_ordCheckL0 : VhL ordCheckL0vs × OShL ordCheckL0os → Option ordCheckL0fin.Y) (s : List Int) : runN Tryz.f19 [.s (.lent .int)] [] [vi] [] [] [(2, LCon.of Tryz.f19.ntmps [0, 5, 6, 7] ordCheckL0vs ordCheckL0os ordCheckL0fin sp_ordCheckL0)] [] (((s, ()), ()) : VhL [.s (.lent .int)] × OShL []) = ((sp_ordCheckL0 ((s, s, Int.ofNat s.length, 0, ()), ())).bind fun val => selim val (fun val => some ((0, ()), ())) fun val => some ((val.1.1, ()), ())) := by kernel_rfl
theorem ordCheck_ok : Sound Tryz.prog gl 19 (ordCheck_C (PIf.spec ordCheckI)) := by
  refine cnk (fn := Tryz.f19) (G := []) (GOk.nil) (by kernel_rfl) (by kernel_rfl) (Lc := [(2, LCon.of Tryz.f19.ntmps [0, 5, 6, 7] ordCheckL0vs ordCheckL0os ordCheckL0fin (PIf.spec ordCheckL0I))]) (nh := []) (lcok (bs := [getL (body Tryz.f19) 0]) (by kernel_rfl) ⟨lone_ok (q := (2, LCon.of Tryz.f19.ntmps [0, 5, 6, 7] ordCheckL0vs ordCheckL0os ordCheckL0fin (PIf.spec ordCheckL0I))) (by kernel_rfl) ordCheckL0_ok, trivial⟩) ?_
  rintro ⟨⟨s, _⟩, _⟩
  refine (ordCheck_raw (PIf.spec ordCheckL0I) s).trans ?_
  show _ = ((ordCheckTr s).val).map (ordCheckI.enc ((s, ()), ()))
  unfold ordCheckTr
  refine bindP (fun b0 => ?_)
  rcases b0 with x0 | y0
  · dsimp only [selim, cond_true, cond_false, Bool.not_true, Bool.not_false, one, none1, mI, ordCheckL0I]
    try (first | refine (cond_t rfl).trans ?_ | refine (cond_f rfl).trans ?_)
    rfl
  · dsimp only [selim, cond_true, cond_false, Bool.not_true, Bool.not_false, one, none1, mI, ordCheckL0I]
    try (first | refine (cond_t rfl).trans ?_ | refine (cond_f rfl).trans ?_)
    rfl
abbrev lawLatchesL0vs : List Vh := [.s (.e (.sl .int)), pm, .s (.ptr 1 0), .s (.own 2), vb, .s (.e (.sl (.st .acc))), vi, vi]
abbrev lawLatchesL0os : List OSh := [.box [.e (.st .cfg)], .box [.e (.st .opn)], .arr .int]
noncomputable abbrev lawLatchesL0fin : Fin := ((Fin.one 0 Tryz.f9.ntmps (.exit 0) [2, 3, 4, 7] [.s (.e (.sl .int)), pm, .s (.ptr 1 0), .s (.own 2)] [.box [.e (.st .cfg)], .box [.e (.st .opn)], .arr .int]).or (Fin.one 0 Tryz.f9.ntmps .ret [6] [vb] []))
def lawLatchesL0Step (v0 : List Int) (v5 : List Acc) (v6 : Int) (v8 : Cfg) (v9 : Opn) (st : Bool × Int × List Int) : T ((Bool × Int × List Int) ⊕ ((List Int) ⊕ Unit)) :=
 let v4 := st.1
 let v7 := st.2.1
 let v10 := st.2.2
 bif decide (v7 < v6) then
 bif inR v7 v5.length then
 bif (rdE (EK.st SN.acc) v5 v7).kind == 5 then
 bif Int.ofNat v10.length == 0 then
 bif decide (Int.ofNat v10.length > 0) then
 bif inR (w64 (Int.ofNat v10.length - 1)) v10.length then
 bif decide ((rdE (EK.st SN.acc) v5 v7).at_ ≤ rdE EK.int v10 (w64 (Int.ofNat v10.length - 1))) then
 .ret (Sum.inr (Sum.inr (())))
 else
 bif decide (v10.length + [(rdE (EK.st SN.acc) v5 v7).at_].length ≤ 1000000000) then
 .ret (Sum.inl (false, w64 (v7 + 1), v10 ++ [(rdE (EK.st SN.acc) v5 v7).at_]))
 else
 .bot
 else
 .bot
 else
 bif decide (v10.length + [(rdE (EK.st SN.acc) v5 v7).at_].length ≤ 1000000000) then
 .ret (Sum.inl (false, w64 (v7 + 1), v10 ++ [(rdE (EK.st SN.acc) v5 v7).at_]))
 else
 .bot
 else
 bif v4 then
 .bot
 else
 bif decide (Int.ofNat v10.length > 0) then
 bif inR (w64 (Int.ofNat v10.length - 1)) v10.length then
 bif decide ((rdE (EK.st SN.acc) v5 v7).at_ ≤ rdE EK.int v10 (w64 (Int.ofNat v10.length - 1))) then
 .ret (Sum.inr (Sum.inr (())))
 else
 bif decide (v10.length + [(rdE (EK.st SN.acc) v5 v7).at_].length ≤ 1000000000) then
 .ret (Sum.inl (v4, w64 (v7 + 1), v10 ++ [(rdE (EK.st SN.acc) v5 v7).at_]))
 else
 .bot
 else
 .bot
 else
 bif decide (v10.length + [(rdE (EK.st SN.acc) v5 v7).at_].length ≤ 1000000000) then
 .ret (Sum.inl (v4, w64 (v7 + 1), v10 ++ [(rdE (EK.st SN.acc) v5 v7).at_]))
 else
 .bot
 else
 bif (rdE (EK.st SN.acc) v5 v7).kind == 6 then
 bif Int.ofNat v10.length == 0 then
 .ret (Sum.inr (Sum.inr (())))
 else
 bif inR (w64 (Int.ofNat v10.length - 1)) v10.length then
 bif rdE EK.int v10 (w64 (Int.ofNat v10.length - 1)) != (rdE (EK.st SN.acc) v5 v7).at_ then
 .ret (Sum.inr (Sum.inr (())))
 else
 bif decide (0 ≤ w64 (Int.ofNat v10.length - 1)) && decide (w64 (Int.ofNat v10.length - 1) ≤ Int.ofNat v10.length) then
 .ret (Sum.inl (true, w64 (v7 + 1), List.take (w64 (Int.ofNat v10.length - 1)).toNat v10))
 else
 .bot
 else
 .bot
 else
 bif (rdE (EK.st SN.acc) v5 v7).kind == 2 then
 bif decide (Int.ofNat v10.length > 0) then
 .ret (Sum.inr (Sum.inr (())))
 else
 .ret (Sum.inl (v4, w64 (v7 + 1), v10))
 else
 bif (rdE (EK.st SN.acc) v5 v7).kind == 7 then
 bif decide (Int.ofNat v10.length > 0) then
 .ret (Sum.inr (Sum.inr (())))
 else
 .ret (Sum.inl (v4, w64 (v7 + 1), v10))
 else
 .ret (Sum.inl (v4, w64 (v7 + 1), v10))
 else
 .bot
 else
 .ret (Sum.inr (Sum.inl (v10)))
@[reducible] def lawLatchesL0I : PIf (VhL lawLatchesL0vs × OShL lawLatchesL0os) lawLatchesL0fin.Y where
  α := (List Int) ⊕ Unit
  tr x := T.loop (lawLatchesL0Step x.1.1 x.1.2.2.2.2.2.1 x.1.2.2.2.2.2.2.1 x.2.1.1 x.2.2.1.1) FU (x.1.2.2.2.2.1, x.1.2.2.2.2.2.2.2.1, x.2.2.2.1)
  enc x a := match a with | Sum.inl (b) => Sum.inl (((x.1.1, (), (), (), ()), ((x.2.1.1, ()), (x.2.2.1.1, ()), b, ()))) | Sum.inr (b) => Sum.inr (((false, ()), ()))
theorem lawLatchesL0_raw (sp_next_ : VhL [.s (.e (.st .cfg)), .s (.e (.st .opn)), .s (.e (.sl .int))] × OShL [] → Option (VhL [.s (.e (.st .acc)), .s (.e (.st .res)), vb] × OShL [])) (sp_all_ : VhL [.s (.e (.st .cfg)), .s (.e (.st .opn)), .s (.e (.sl .int))] × OShL [] → Option (VhL [.s (.e (.sl (.st .acc)))] × OShL [])) (sp_mayF : VhL [.s (.e (.st .cfg)), .s (.e (.sl .int))] × OShL [] → Option (VhL [vb] × OShL [])) (sp_liveF : VhL [] × OShL [] → Option (VhL [vb] × OShL [])) (sp_ordCheck : ordCheck_T) (v0 : List Int) (v4 : Bool) (v5 : List Acc) (v6 : Int) (v7 : Int) (v8 : Cfg) (v9 : Opn) (v10 : List Int) : runW 0 Tryz.f9 0 [2, 3, 4, 7, 8, 23, 24, 25] lawLatchesL0vs lawLatchesL0os lawLatchesL0fin [(12, Con.of [.s (.e (.st .cfg)), .s (.e (.st .opn)), .s (.e (.sl .int))] [] [.s (.e (.st .acc)), .s (.e (.st .res)), vb] [] sp_next_), (16, Con.of [.s (.e (.st .cfg)), .s (.e (.st .opn)), .s (.e (.sl .int))] [] [.s (.e (.sl (.st .acc)))] [] sp_all_), (11, Con.of [.s (.e (.st .cfg)), .s (.e (.sl .int))] [] [vb] [] sp_mayF), (10, Con.of [] [] [vb] [] sp_liveF), (19, ordCheck_C sp_ordCheck)] [] [(5, [(7, none, .int)]), (21, [(7, none, .int)])] (((v0, (), (), (), v4, v5, v6, v7, ()), ((v8, ()), (v9, ()), v10, ())) : VhL lawLatchesL0vs × OShL lawLatchesL0os) = (bif decide (v7 < v6) then bif inR v7 v5.length then bif (rdE (EK.st SN.acc) v5 v7).kind == 5 then bif Int.ofNat v10.length == 0 then bif decide (Int.ofNat v10.length > 0) then bif inR (w64 (Int.ofNat v10.length - 1)) v10.length then bif decide ((rdE (EK.st SN.acc) v5 v7).at_ ≤ rdE EK.int v10 (w64 (Int.ofNat v10.length - 1))) then some (Sum.inr (Sum.inr ((false, ()), ()))) else bif decide (v10.length + [(rdE (EK.st SN.acc) v5 v7).at_].length ≤ 1000000000) then some (Sum.inl ((v0, (), (), (), false, v5, v6, w64 (v7 + 1), ()), (v8, ()), (v9, ()), v10 ++ [(rdE (EK.st SN.acc) v5 v7).at_], ())) else none else none else bif decide (v10.length + [(rdE (EK.st SN.acc) v5 v7).at_].length ≤ 1000000000) then some (Sum.inl ((v0, (), (), (), false, v5, v6, w64 (v7 + 1), ()), (v8, ()), (v9, ()), v10 ++ [(rdE (EK.st SN.acc) v5 v7).at_], ())) else none else bif v4 then none else bif decide (Int.ofNat v10.length > 0) then bif inR (w64 (Int.ofNat v10.length - 1)) v10.length then bif decide ((rdE (EK.st SN.acc) v5 v7).at_ ≤ rdE EK.int v10 (w64 (Int.ofNat v10.length - 1))) then some (Sum.inr (Sum.inr ((false, ()), ()))) else bif decide (v10.length + [(rdE (EK.st SN.acc) v5 v7).at_].length ≤ 1000000000) then some (Sum.inl ((v0, (), (), (), v4, v5, v6, w64 (v7 + 1), ()), (v8, ()), (v9, ()), v10 ++ [(rdE (EK.st SN.acc) v5 v7).at_], ())) else none else none else bif decide (v10.length + [(rdE (EK.st SN.acc) v5 v7).at_].length ≤ 1000000000) then some (Sum.inl ((v0, (), (), (), v4, v5, v6, w64 (v7 + 1), ()), (v8, ()), (v9, ()), v10 ++ [(rdE (EK.st SN.acc) v5 v7).at_], ())) else none else bif (rdE (EK.st SN.acc) v5 v7).kind == 6 then bif Int.ofNat v10.length == 0 then some (Sum.inr (Sum.inr ((false, ()), ()))) else bif inR (w64 (Int.ofNat v10.length - 1)) v10.length then bif rdE EK.int v10 (w64 (Int.ofNat v10.length - 1)) != (rdE (EK.st SN.acc) v5 v7).at_ then some (Sum.inr (Sum.inr ((false, ()), ()))) else bif decide (0 ≤ w64 (Int.ofNat v10.length - 1)) && decide (w64 (Int.ofNat v10.length - 1) ≤ Int.ofNat v10.length) then some (Sum.inl ((v0, (), (), (), true, v5, v6, w64 (v7 + 1), ()), (v8, ()), (v9, ()), List.take (w64 (Int.ofNat v10.length - 1)).toNat v10, ())) else none else none else bif (rdE (EK.st SN.acc) v5 v7).kind == 2 then bif decide (Int.ofNat v10.length > 0) then some (Sum.inr (Sum.inr ((false, ()), ()))) else some (Sum.inl ((v0, (), (), (), v4, v5, v6, w64 (v7 + 1), ()), (v8, ()), (v9, ()), v10, ())) else bif (rdE (EK.st SN.acc) v5 v7).kind == 7 then bif decide (Int.ofNat v10.length > 0) then some (Sum.inr (Sum.inr ((false, ()), ()))) else some (Sum.inl ((v0, (), (), (), v4, v5, v6, w64 (v7 + 1), ()), (v8, ()), (v9, ()), v10, ())) else some (Sum.inl ((v0, (), (), (), v4, v5, v6, w64 (v7 + 1), ()), (v8, ()), (v9, ()), v10, ())) else none
else some (Sum.inr (Sum.inl ((v0, (), (), (), ()), (v8, ()), (v9, ()), v10, ())))) := by kernel_rfl
theorem lawLatchesL0_ok : LOk Tryz.prog gl 0 (LCon.of Tryz.f9.ntmps [2, 3, 4, 7, 8, 23, 24, 25] lawLatchesL0vs lawLatchesL0os lawLatchesL0fin (PIf.spec lawLatchesL0I)) (getL (body Tryz.f9) 0) := by
  refine lwk (Lc := []) (nh := [(5, [(7, none, .int)]), (21, [(7, none, .int)])]) (G := [(12, Con.of [.s (.e (.st .cfg)), .s (.e (.st .opn)), .s (.e (.sl .int))] [] [.s (.e (.st .acc)), .s (.e (.st .res)), vb] [] (PIf.spec next_I)), (16, Con.of [.s (.e (.st .cfg)), .s (.e (.st .opn)), .s (.e (.sl .int))] [] [.s (.e (.sl (.st .acc)))] [] (PIf.spec all_I)), (11, Con.of [.s (.e (.st .cfg)), .s (.e (.sl .int))] [] [vb] [] (PIf.spec mayFI)), (10, Con.of [] [] [vb] [] (PIf.spec liveFI)), (19, ordCheck_C (PIf.spec ordCheckI))]) (GOk.cons ⟨Tryz.f12, body Tryz.f12, by kernel_rfl, by kernel_rfl, by kernel_rfl⟩ next__ok (GOk.cons ⟨Tryz.f16, body Tryz.f16, by kernel_rfl, by kernel_rfl, by kernel_rfl⟩ all__ok (GOk.cons ⟨Tryz.f11, body Tryz.f11, by kernel_rfl, by kernel_rfl, by kernel_rfl⟩ mayF_ok (GOk.cons ⟨Tryz.f10, body Tryz.f10, by kernel_rfl, by kernel_rfl, by kernel_rfl⟩ liveF_ok (GOk.cons ordCheck_g ordCheck_ok (GOk.nil)))))) (noloopN (by kernel_rfl)) (Fin.or_ok (Fin.one_ok _ _ _ _) (Fin.one_ok _ _ _ _)) ?_
  rintro ⟨⟨v0, _, _, _, v4, v5, v6, v7, _⟩, ⟨⟨v8, _⟩, ⟨v9, _⟩, v10, _⟩⟩ y hy
  refine ⟨_, loopP_ok (eX := fun (st : Bool × Int × List Int) => (let v4 := st.1; let v7 := st.2.1; let v10 := st.2.2; ((v0, (), (), (), v4, v5, v6, v7, ()), ((v8, ()), (v9, ()), v10, ())) : VhL lawLatchesL0vs × OShL lawLatchesL0os)) (body := lawLatchesL0Step v0 v5 v6 v8 v9) (fun st => ?_) _ (v4, v7, v10) y hy⟩
  obtain ⟨v4, v7, v10⟩ := st
  refine (lawLatchesL0_raw (PIf.spec next_I) (PIf.spec all_I) (PIf.spec mayFI) (PIf.spec liveFI) (PIf.spec ordCheckI) v0 v4 v5 v6 v7 v8 v9 v10).trans ?_
  unfold lawLatchesL0Step
  repeat' (first | refine cond_outP (fun _ => ?_) (fun _ => ?_) | rfl)
def lawLatchesTr (c : Cfg) (o : Opn) (got : List Int) : T (Bool) :=
 (liveFTr).bind fun x0 =>
 bif !x0 then
 .ret false
 else
 (mayFTr c got).bind fun x1 =>
 bif !x1 then
 .ret true
 else
 (all_Tr c o got).bind fun x2 =>
 (T.loop (lawLatchesL0Step got x2 (Int.ofNat x2.length) c o) 4611686018427387904 (false, 0, [])).bind fun b3 => selim b3
 (fun x3 => (next_Tr c o got).bind fun x4 =>
 bif !x4.2.2 then
 (ordCheckTr x3).bind fun x5 =>
 .ret (x5 == 0)
 else
 bif Int.ofNat x3.length == 0 then
 (ordCheckTr x3).bind fun x5 =>
 .ret (x5 == 0)
 else
 .ret false)
 (fun y3 => .ret false)
@[reducible] def lawLatchesI : PIf (VhL [.s (.e (.st .cfg)), .s (.e (.st .opn)), .s (.e (.sl .int))] × OShL []) (VhL [vb] × OShL []) where
  α := Bool
  tr x := lawLatchesTr x.1.1 x.1.2.1 x.1.2.2.1
  enc x a := ((a, ()), ())
abbrev lawLatches_T : Type := VhL [.s (.e (.st .cfg)), .s (.e (.st .opn)), .s (.e (.sl .int))] × OShL [] → Option (VhL [vb] × OShL [])
noncomputable abbrev lawLatches_C (sp : lawLatches_T) : Con := Con.of [.s (.e (.st .cfg)), .s (.e (.st .opn)), .s (.e (.sl .int))] [] [vb] [] sp
theorem lawLatches_raw (sp_next_ : VhL [.s (.e (.st .cfg)), .s (.e (.st .opn)), .s (.e (.sl .int))] × OShL [] → Option (VhL [.s (.e (.st .acc)), .s (.e (.st .res)), vb] × OShL [])) (sp_all_ : VhL [.s (.e (.st .cfg)), .s (.e (.st .opn)), .s (.e (.sl .int))] × OShL [] → Option (VhL [.s (.e (.sl (.st .acc)))] × OShL [])) (sp_mayF : VhL [.s (.e (.st .cfg)), .s (.e (.sl .int))] × OShL [] → Option (VhL [vb] × OShL [])) (sp_liveF : VhL [] × OShL [] → Option (VhL [vb] × OShL [])) (sp_ordCheck : ordCheck_T) (sp_lawLatchesL0 : VhL lawLatchesL0vs × OShL lawLatchesL0os → Option lawLatchesL0fin.Y) (c : Cfg) (o : Opn) (got : List Int) : runN Tryz.f9 [.s (.e (.st .cfg)), .s (.e (.st .opn)), .s (.e (.sl .int))] [] [vb] [] [(12, Con.of [.s (.e (.st .cfg)), .s (.e (.st .opn)), .s (.e (.sl .int))] [] [.s (.e (.st .acc)), .s (.e (.st .res)), vb] [] sp_next_), (16, Con.of [.s (.e (.st .cfg)), .s (.e (.st .opn)), .s (.e (.sl .int))] [] [.s (.e (.sl (.st .acc)))] [] sp_all_), (11, Con.of [.s (.e (.st .cfg)), .s (.e (.sl .int))] [] [vb] [] sp_mayF), (10, Con.of [] [] [vb] [] sp_liveF), (19, ordCheck_C sp_ordCheck)] [(8, LCon.of Tryz.f9.ntmps [2, 3, 4, 7, 8, 23, 24, 25] lawLatchesL0vs lawLatchesL0os lawLatchesL0fin sp_lawLatchesL0)] [(5, [(7, none, .int)]), (21, [(7, none, .int)])] (((c, o, got, ()), ()) : VhL [.s (.e (.st .cfg)), .s (.e (.st .opn)), .s (.e (.sl .int))] × OShL []) = ((sp_liveF ((), ())).bind fun val => bif !val.1.1 then some ((false, ()), ()) else (sp_mayF ((c, got, ()), ())).bind fun val => bif !val.1.1 then some ((true, ()), ()) else (sp_all_ ((c, o, got, ()), ())).bind fun val => (sp_lawLatchesL0 ((got, (), (), (), false, val.1.1, Int.ofNat (List.length val.1.1), 0, ()), (c, ()), (o, ()), [], ())).bind fun val => selim val (fun val => (sp_next_ ((val.2.1.1, val.2.2.1.1, val.1.1, ()), ())).bind fun val_1 => bif !val_1.1.2.2.1 then (sp_ordCheck ((val.2.2.2.1, ()), ())).bind fun val => some ((val.1.1 == 0, ()), ()) else bif Int.ofNat (List.length val.2.2.2.1) == 0 then (sp_ordCheck ((val.2.2.2.1, ()), ())).bind fun val => some ((val.1.1 == 0, ()), ()) else some ((false, ()), ())) fun val => some ((val.1.1, ()), ())) := by kernel_rfl
theorem lawLatches_ok : Sound Tryz.prog gl 9 (lawLatches_C (PIf.spec lawLatchesI)) := by
  refine cnk (fn := Tryz.f9) (G := [(12, Con.of [.s (.e (.st .cfg)), .s (.e (.st .opn)), .s (.e (.sl .int))] [] [.s (.e (.st .acc)), .s (.e (.st .res)), vb] [] (PIf.spec next_I)), (16, Con.of [.s (.e (.st .cfg)), .s (.e (.st .opn)), .s (.e (.sl .int))] [] [.s (.e (.sl (.st .acc)))] [] (PIf.spec all_I)), (11, Con.of [.s (.e (.st .cfg)), .s (.e (.sl .int))] [] [vb] [] (PIf.spec mayFI)), (10, Con.of [] [] [vb] [] (PIf.spec liveFI)), (19, ordCheck_C (PIf.spec ordCheckI))]) (GOk.cons ⟨Tryz.f12, body Tryz.f12, by kernel_rfl, by kernel_rfl, by kernel_rfl⟩ next__ok (GOk.cons ⟨Tryz.f16, body Tryz.f16, by kernel_rfl, by kernel_rfl, by kernel_rfl⟩ all__ok (GOk.cons ⟨Tryz.f11, body Tryz.f11, by kernel_rfl, by kernel_rfl, by kernel_rfl⟩ mayF_ok (GOk.cons ⟨Tryz.f10, body Tryz.f10, by kernel_rfl, by kernel_rfl, by kernel_rfl⟩ liveF_ok (GOk.cons ordCheck_g ordCheck_ok (GOk.nil)))))) (by kernel_rfl) (by kernel_rfl) (Lc := [(8, LCon.of Tryz.f9.ntmps [2, 3, 4, 7, 8, 23, 24, 25] lawLatchesL0vs lawLatchesL0os lawLatchesL0fin (PIf.spec lawLatchesL0I))]) (nh := [(5, [(7, none, .int)]), (21, [(7, none, .int)])]) (lcok (bs := [getL (body Tryz.f9) 0]) (by kernel_rfl) ⟨lone_ok (q := (8, LCon.of Tryz.f9.ntmps [2, 3, 4, 7, 8, 23, 24, 25] lawLatchesL0vs lawLatchesL0os lawLatchesL0fin (PIf.spec lawLatchesL0I))) (by kernel_rfl) lawLatchesL0_ok, trivial⟩) ?_
  rintro ⟨⟨c, o, got, _⟩, _⟩
  refine (lawLatches_raw (PIf.spec next_I) (PIf.spec all_I) (PIf.spec mayFI) (PIf.spec liveFI) (PIf.spec ordCheckI) (PIf.spec lawLatchesL0I) c o got).trans ?_
  show _ = ((lawLatchesTr c o got).val).map (lawLatchesI.enc ((c, o, got, ()), ()))
  unfold lawLatchesTr
  refine bindP (fun x0 => ?_)
  dsimp only [selim, cond_true, cond_false, Bool.not_true, Bool.not_false, one, none1, mI, next_I, all_I, mayFI, liveFI, ordCheckI, lawLatchesL0I]
  refine cond_outP (fun _ => ?_) (fun _ => ?_)
  · rfl
  · refine bindP (fun x1 => ?_)
    dsimp only [selim, cond_true, cond_false, Bool.not_true, Bool.not_false, one, none1, mI, next_I, all_I, mayFI, liveFI, ordCheckI, lawLatchesL0I]
    refine cond_outP (fun _ => ?_) (fun _ => ?_)
    · rfl
    · refine bindP (fun x2 => ?_)
      dsimp only [selim, cond_true, cond_false, Bool.not_true, Bool.not_false, one, none1, mI, next_I, all_I, mayFI, liveFI, ordCheckI, lawLatchesL0I]
      refine bindP (fun b3 => ?_)
      rcases b3 with x3 | y3
      · dsimp only [selim, cond_true, cond_false, Bool.not_true, Bool.not_false, one, none1, mI, next_I, all_I, mayFI, liveFI, ordCheckI, lawLatchesL0I]
        try (first | refine (cond_t rfl).trans ?_ | refine (cond_f rfl).trans ?_)
        refine bindP (fun x4 => ?_)
        dsimp only [selim, cond_true, cond_false, Bool.not_true, Bool.not_false, one, none1, mI, next_I, all_I, mayFI, liveFI, ordCheckI, lawLatchesL0I]
        refine cond_outP (fun _ => ?_) (fun _ => ?_)
        · refine bindP (fun x5 => ?_)
          dsimp only [selim, cond_true, cond_false, Bool.not_true, Bool.not_false, one, none1, mI, next_I, all_I, mayFI, liveFI, ordCheckI, lawLatchesL0I]
          rfl
        · refine cond_outP (fun _ => ?_) (fun _ => ?_)
          · refine bindP (fun x5 => ?_)
            dsimp only [selim, cond_true, cond_false, Bool.not_true, Bool.not_false, one, none1, mI, next_I, all_I, mayFI, liveFI, ordCheckI, lawLatchesL0I]
            rfl
          · rfl
      · dsimp only [selim, cond_true, cond_false, Bool.not_true, Bool.not_false, one, none1, mI, next_I, all_I, mayFI, liveFI, ordCheckI, lawLatchesL0I]
        try (first | refine (cond_t rfl).trans ?_ | refine (cond_f rfl).trans ?_)
        rfl
end Go.Ax.Cd
/- CodeLatches, in plain Lean. -/
namespace Go.Ax.Cd
set_option linter.unusedVariables false
set_option linter.unusedSimpArgs false
theorem check_val {l : List Int} (hs : l.Pairwise (· < ·)) (hl : l.length ≤ 1000000) : (ordCheckTr l).val = some 0 := by
  have key : ∀ (j i k : Nat), i + j = l.length → j < k → (T.loop (ordCheckL0Step l l (Int.ofNat l.length)) k (i : Int)).val = some (.inl ()) := by
    intro j
    induction j with
    | zero =>
      intro i k hi hk
      obtain ⟨k, rfl⟩ : ∃ k', k = k' + 1 := ⟨k - 1, by omega⟩
      refine loop_end ?_
      have c : decide ((i : Int) < Int.ofNat l.length) = false := decide_eq_false (by simp; omega)
      simp only [ordCheckL0Step, c, cond_false, T.val_ret]
    | succ j ih =>
      intro i k hi hk
      obtain ⟨k, rfl⟩ : ∃ k', k = k' + 1 := ⟨k - 1, by omega⟩
      have c : decide ((i : Int) < Int.ofNat l.length) = true := decide_eq_true (by simp; omega)
      have i1 := inR_ge (n := l.length) (i := i) (by omega)
      have e1 : w64 ((i : Int) + 1) = ((i + 1 : Nat) : Int) := by rw [w64_id] <;> omega
      refine loop_step (s' := ((i + 1 : Nat) : Int)) ?_ (ih (i + 1) k (by omega) (by omega))
      by_cases h0 : i = 0
      · subst h0
        have c2 : decide (((0 : Nat) : Int) > 0) = false := decide_eq_false (by simp)
        simp only [ordCheckL0Step, c, i1, cond_true, c2, cond_false, e1, T.val_ret]
      · have c2 : decide ((i : Int) > 0) = true := decide_eq_true (by omega)
        have e2 : w64 ((i : Int) - 1) = ((i - 1 : Nat) : Int) := by rw [w64_id] <;> omega
        have i2 := inR_ge (n := l.length) (i := i - 1) (by omega)
        have hlt : l[i - 1]'(by omega) < l[i]'(by omega) := List.pairwise_iff_getElem.1 hs (i - 1) i (by omega) (by omega) (by omega)
        have r1 : rd (e := .int) l (i : Int) = l[i]'(by omega) := rd_ge (e := .int) (by omega)
        have r2 : rd (e := .int) l ((i - 1 : Nat) : Int) = l[i - 1]'(by omega) := rd_ge (e := .int) (by omega)
        have c3 : decide (rdE EK.int l (i : Int) ≤ rdE EK.int l ((i - 1 : Nat) : Int)) = false := decide_eq_false (by
          show ¬ (rd (e := .int) l (i : Int) ≤ rd (e := .int) l ((i - 1 : Nat) : Int))
          rw [r1, r2]
          exact Int.not_le.2 hlt)
        simp only [ordCheckL0Step, c, i1, cond_true, c2, e2, i2, c3, cond_false, e1, T.val_ret]
  unfold ordCheckTr
  rw [T.val_bind]
  have h0 : (T.loop (ordCheckL0Step l l (Int.ofNat l.length)) 4611686018427387904 0).val = _ := key l.length 0 4611686018427387904 (by omega) (by omega)
  rw [h0]
  rfl
theorem latches_loop {d : List Acc} {c0 : Cfg} {o : Opn} {got : List Int} {ro : Bool} (hd : d.length ≤ 2000) : ∀ (e pre : List Acc) (s s' : Nat × RS) (k : Nat), d = pre ++ e → ruled (ruleR ro) s e = some s' → s.2.2.length ≤ pre.length → s.2.2.Pairwise (· > ·) → e.length < k →
    (T.loop (lawLatchesL0Step got d (Int.ofNat d.length) c0 o) k (s.2.1, (pre.length : Int), s.2.2.reverse)).val = some (.inl s'.2.2.reverse) ∧ s'.2.2.Pairwise (· > ·) ∧ s'.2.2.length ≤ d.length
  | [], pre, s, s', k, hp, h, hl, hw, hk => by
    obtain ⟨k, rfl⟩ : ∃ k', k = k' + 1 := ⟨k - 1, by simp at hk; omega⟩
    simp only [ruled, Option.some.injEq] at h
    subst h
    refine ⟨loop_end ?_, hw, by rw [hp]; simpa using hl⟩
    have c : decide ((pre.length : Int) < Int.ofNat d.length) = false := decide_eq_false (by rw [hp]; simp)
    simp only [lawLatchesL0Step, c, cond_false, T.val_ret]
  | a :: e, pre, s, s', k, hp, h, hl, hw, hk => by
    obtain ⟨k, rfl⟩ : ∃ k', k = k' + 1 := ⟨k - 1, by simp at hk; omega⟩
    simp only [ruled] at h
    obtain ⟨s1, h1, h2⟩ := Option.bind_eq_some_iff.1 h
    obtain ⟨q1, q2⟩ := at_mid hp
    have hlen : d.length = pre.length + (e.length + 1) := by rw [hp]; simp
    have c : decide ((pre.length : Int) < Int.ofNat d.length) = true := decide_eq_true (by simp; omega)
    have e1 : w64 ((pre.length : Int) + 1) = ((pre ++ [a]).length : Int) := by rw [w64_id] <;> (try simp) <;> omega
    have hs1 : s1.2.2.length ≤ (pre ++ [a]).length ∧ s1.2.2.Pairwise (· > ·) ∧ (lawLatchesL0Step got d (Int.ofNat d.length) c0 o (s.2.1, (pre.length : Int), s.2.2.reverse)).val = some (.inl (s1.2.1, ((pre ++ [a]).length : Int), s1.2.2.reverse)) := by
      rcases ruleR_cases h1 with ⟨_, hb, rfl⟩ | ⟨_, hb, hn, rfl⟩ | ⟨_, t, ht, rfl⟩
      · refine ⟨by simp; omega, hw, ?_⟩
        simp only [lawLatchesL0Step, c, cond_true, q1, q2, bare_kind hb, e1] <;> rfl
      · refine ⟨by simp; omega, hw, ?_⟩
        simp only [lawLatchesL0Step, c, cond_true, q1, q2, bare_kind hb, e1, hn]
        rfl
      · rcases rule_cases ht with ⟨hk1, rfl⟩ | ⟨hk1, hn, rfl⟩ | ⟨hk1, hn, rfl⟩ | ⟨hk1, t', r, hn, hf, hlt, rfl⟩ | ⟨hk1, r, hn, rfl⟩ | ⟨hk1, hro, hn, rfl⟩
        · refine ⟨by simp; omega, hw, ?_⟩
          simp only [lawLatchesL0Step, c, cond_true, q1, q2, hk1, e1] <;> rfl
        · refine ⟨by simp; omega, hw, ?_⟩
          simp only [lawLatchesL0Step, c, cond_true, q1, q2, hk1, e1, hn]
          rfl
        · refine ⟨by simp, by simp, ?_⟩
          simp only [lawLatchesL0Step, c, cond_true, q1, q2, hk1, e1, hn]
          rfl
        · rw [hn] at hl hw
          simp only [List.length_cons] at hl
          refine ⟨by simp; omega, ?_, ?_⟩
          · refine List.pairwise_cons.2 ⟨fun x hx => ?_, hw⟩
            rcases List.mem_cons.1 hx with rfl | hx
            · exact hlt
            · have := (List.pairwise_cons.1 hw).1 x hx
              omega
          · have n0 : (Int.ofNat (r.reverse ++ [t']).length == 0) = false := beq_false_of_ne (by simp; omega)
            have n1 : decide (Int.ofNat (r.reverse ++ [t']).length > 0) = true := decide_eq_true (by simp)
            have e2 : w64 (Int.ofNat (r.reverse ++ [t']).length - 1) = (r.reverse.length : Int) := by
              simp only [Int.ofNat_eq_natCast]
              rw [w64_id] <;> simp <;> omega
            have r1 : rdE EK.int (r.reverse ++ [t']) (r.reverse.length : Int) = t' := rd_at (e := .int) (R := []) rfl rfl
            have i1 : inR (r.reverse.length : Int) (r.reverse ++ [t']).length = true := inR_at (e := .int) (R := []) rfl rfl
            have n2 : decide (a.at_ ≤ t') = false := decide_eq_false (by omega)
            have n3 : decide ((r.reverse ++ [t']).length + [a.at_].length ≤ 1000000000) = true := decide_eq_true (by simp; omega)
            simp only [lawLatchesL0Step, c, cond_true, q1, q2, hk1, e1, hn, hf, List.reverse_cons, n0, n1, e2, r1, i1, n2, n3, beq_self_eq_true, cond_false, T.val_ret]
        · rw [hn] at hl hw
          simp only [List.length_cons] at hl
          refine ⟨by simp; omega, (List.pairwise_cons.1 hw).2, ?_⟩
          have n0 : (Int.ofNat (r.reverse ++ [a.at_]).length == 0) = false := beq_false_of_ne (by simp; omega)
          have e2 : w64 (Int.ofNat (r.reverse ++ [a.at_]).length - 1) = (r.reverse.length : Int) := by
            simp only [Int.ofNat_eq_natCast]
            rw [w64_id] <;> simp <;> omega
          have r1 : rdE EK.int (r.reverse ++ [a.at_]) (r.reverse.length : Int) = a.at_ := rd_at (e := .int) (R := []) rfl rfl
          have i1 : inR (r.reverse.length : Int) (r.reverse ++ [a.at_]).length = true := inR_at (e := .int) (R := []) rfl rfl
          have n2 : (a.at_ != a.at_) = false := by simp
          have n3 : (decide (0 ≤ (r.reverse.length : Int)) && decide ((r.reverse.length : Int) ≤ Int.ofNat (r.reverse ++ [a.at_]).length)) = true := by simp; omega
          have n4 : List.take (r.reverse.length : Int).toNat (r.reverse ++ [a.at_]) = r.reverse := by rw [Int.toNat_natCast]; simp
          simp only [lawLatchesL0Step, c, cond_true, q1, q2, hk1, e1, hn, List.reverse_cons, n0, e2, r1, i1, n2, n3, n4, beq_self_eq_true, cond_false, T.val_ret, show ((6 : Int) == 5) = false from rfl]
        · refine ⟨by simp; omega, hw, ?_⟩
          rcases hk1 with hk1 | hk1 | hk1 <;> simp only [lawLatchesL0Step, c, cond_true, q1, q2, hk1, e1] <;> rfl
    obtain ⟨j1, j2, j3⟩ := hs1
    obtain ⟨i1, i2, i3⟩ := latches_loop (got := got) (c0 := c0) (o := o) hd e (pre ++ [a]) s1 s' k (by rw [hp]; simp) h2 j1 j2 (by simp at hk; omega)
    exact ⟨loop_step j3 i1, i2, i3⟩
theorem lawLatches_true {c : Cfg} {o : Opn} {got : List Int} (hx : ∀ x ∈ got, In64 x) (ha : In64 o.a) (hb : In64 o.b) : (lawLatchesTr c o got).val = some true := by
  unfold lawLatchesTr
  rw [T.of_val live_ok]
  simp only [T.bind, Bool.not_true, cond_false]
  obtain ⟨b, hm, h200⟩ := may_ok c got
  rw [hm]
  simp only [T.bind]
  cases b with
  | false => rfl
  | true =>
    have hN := h200 rfl
    simp only [Bool.not_true, cond_false]
    rcases all_ruled (c := c) (o := o) (by omega) hx ha hb with ⟨r, d, b, h1, h2, h3⟩ | ⟨d, s, h1, h2, h3⟩
    · obtain ⟨i1, i2, i3⟩ := latches_loop (d := d) (c0 := c) (o := o) (got := got) (by omega) d [] (0, (false, [])) _ 4611686018427387904 rfl h2 (Nat.le_refl _) (by simp) (by omega)
      have i1' : (T.loop (lawLatchesL0Step got d (Int.ofNat d.length) c o) 4611686018427387904 (false, 0, [])).val = _ := i1
      rw [all_ok h1, next_okT h1]
      simp only [T.bind]
      rw [T.val_bind, i1', Option.bind_some]
      have hc := check_val (l := []) (by simp) (by simp)
      simp only [selim, Bool.not_true, cond_false, List.reverse_nil, List.length_nil]
      rw [show (Int.ofNat 0 == 0) = true from rfl, cond_true, T.val_bind, hc]
      rfl
    · obtain ⟨i1, i2, i3⟩ := latches_loop (d := d) (c0 := c) (o := o) (got := got) (by omega) d [] (0, (false, [])) _ 4611686018427387904 rfl h2 (Nat.le_refl _) (by simp) (by omega)
      have i1' : (T.loop (lawLatchesL0Step got d (Int.ofNat d.length) c o) 4611686018427387904 (false, 0, [])).val = _ := i1
      rw [all_ok h1, next_okF h1 (by omega) (by omega)]
      simp only [T.bind]
      rw [T.val_bind, i1', Option.bind_some]
      have hc := check_val (l := s.2.2.reverse) (by rw [List.pairwise_reverse]; exact i2) (by rw [List.length_reverse]; omega)
      simp only [selim, Bool.not_false, cond_true]
      rw [T.val_bind, hc]
      rfl
end Go.Ax.Cd
