/- The chapter's example. -/
import Derived.Test.YteoeolfcpmalfaaGreatDoorQ34
import Derived.Test.YteoeolfcpmalfaaGreatDoorQ35
import Derived.KernelRfl
namespace Go.Ax.Cd
theorem live_ok : liveFTr.val = some true := by kernel_rfl
theorem go_ok {c : Cfg} {o : Opn} {got : List Int} {r : Res} {d : List Acc} (h : (runTr c o got).exec got [] = .ok r d) : goTr c o got = .ret (d, r, true) := by
  unfold goTr
  rw [h]
theorem go_stop {c : Cfg} {o : Opn} {got : List Int} {d : List Acc} (h : (runTr c o got).exec got [] = .stop d) : goTr c o got = .ret (d, rz, false) := by
  unfold goTr
  rw [h]
theorem samePr_refl (a : List Pr) (h : a.length ≤ 1000) : samePrTr a a = .ret true := by
  have key : ∀ (j i f : Nat), i + j = a.length → j < f → T.loop (samePrL0Step a a (Int.ofNat a.length)) f (i : Int) = .ret (.inl ()) := by
    intro j
    induction j with
    | zero =>
      intro i f hi hf
      obtain ⟨f, rfl⟩ : ∃ q, f = q + 1 := ⟨f - 1, by omega⟩
      rw [T.loop]
      unfold samePrL0Step
      dsimp only
      rw [decide_eq_false (by simp; omega), cond_false]
      rfl
    | succ j ih =>
      intro i f hi hf
      obtain ⟨f, rfl⟩ : ∃ q, f = q + 1 := ⟨f - 1, by omega⟩
      have e1 : inR (i : Int) a.length = true := by simp [inR]; omega
      have e2 : w64 ((i : Int) + 1) = ((i + 1 : Nat) : Int) := by rw [w64_id] <;> omega
      have es : samePrL0Step a a (Int.ofNat a.length) (i : Int) = .ret (.inl ((i + 1 : Nat) : Int)) := by
        unfold samePrL0Step
        dsimp only
        rw [decide_eq_true (by simp; omega), cond_true, e1, cond_true, cond_true, e2]
        simp only [beq_self_eq_true, Bool.and_true, Bool.not_true, cond_false]
      rw [T.loop, es]
      exact ih (i + 1) f (by omega) (by omega)
  unfold samePrTr
  have e := key a.length 0 4611686018427387904 (by omega) (by omega)
  rw [show ((0 : Nat) : Int) = 0 from rfl] at e
  rw [e]
  simp [T.bind, selim]
theorem sameEn_refl (a : List En) (h : a.length ≤ 1000) : sameEnTr a a = .ret true := by
  have key : ∀ (j i f : Nat), i + j = a.length → j < f → T.loop (sameEnL0Step a a (Int.ofNat a.length)) f (i : Int) = .ret (.inl ()) := by
    intro j
    induction j with
    | zero =>
      intro i f hi hf
      obtain ⟨f, rfl⟩ : ∃ q, f = q + 1 := ⟨f - 1, by omega⟩
      rw [T.loop]
      unfold sameEnL0Step
      dsimp only
      rw [decide_eq_false (by simp; omega), cond_false]
      rfl
    | succ j ih =>
      intro i f hi hf
      obtain ⟨f, rfl⟩ : ∃ q, f = q + 1 := ⟨f - 1, by omega⟩
      have e1 : inR (i : Int) a.length = true := by simp [inR]; omega
      have e2 : w64 ((i : Int) + 1) = ((i + 1 : Nat) : Int) := by rw [w64_id] <;> omega
      have es : sameEnL0Step a a (Int.ofNat a.length) (i : Int) = .ret (.inl ((i + 1 : Nat) : Int)) := by
        unfold sameEnL0Step
        dsimp only
        rw [decide_eq_true (by simp; omega), cond_true, e1, cond_true, cond_true, e2]
        simp only [beq_self_eq_true, Bool.and_true, Bool.not_true, cond_false]
      rw [T.loop, es]
      exact ih (i + 1) f (by omega) (by omega)
  unfold sameEnTr
  have e := key a.length 0 4611686018427387904 (by omega) (by omega)
  rw [show ((0 : Nat) : Int) = 0 from rfl] at e
  rw [e]
  simp [T.bind, selim]
theorem sameRes_refl {r : Res} (h : Sm r) : sameResTr r r = .ret true := by
  unfold sameResTr
  rw [samePr_refl _ h.1, sameEn_refl _ h.2.1, sameEn_refl _ h.2.2]
  simp [T.bind]
theorem may_ok (c : Cfg) (got : List Int) : ∃ b, mayFTr c got = .ret b ∧ (b = true → got.length ≤ 200) := by
  have key : ∀ {x : Bool} {t : T Bool}, (∃ b, t = .ret b ∧ (b = true → got.length ≤ 200)) → ∃ b, (bif x then t else .ret false) = .ret b ∧ (b = true → got.length ≤ 200) := fun {x t} h => by
    cases x with
    | true => exact h
    | false => exact ⟨false, rfl, fun h => by cases h⟩
  unfold mayFTr
  refine key (key (key (key (key (key (key (key (key (key ⟨_, rfl, fun h => ?_⟩)))))))))
  have := of_decide_eq_true h
  simp at this
  omega
end Go.Ax.Cd
/- What the laws call, in plain Lean. -/
namespace Go.Ax.Cd
set_option linter.unusedVariables false
theorem T.of_val {α : Type} {t : T α} {a : α} (h : t.val = some a) : t = .ret a := by
  cases t with
  | ret b => simp [T.val, T.exec] at h; rw [h]
  | ask c k => simp [T.val, T.exec] at h
  | bot => simp [T.val, T.exec] at h
theorem all_ok {c : Cfg} {o : Opn} {got : List Int} {x : List Acc × Res × Bool} (h : goTr c o got = .ret x) : all_Tr c o got = .ret x.1 := by
  unfold all_Tr
  rw [h]
  rfl
theorem next_okT {c : Cfg} {o : Opn} {got : List Int} {d : List Acc} {r : Res} (h : goTr c o got = .ret (d, r, true)) : next_Tr c o got = .ret (⟨0, 0, 0, 0, 0, 0⟩, r, true) := by
  unfold next_Tr
  rw [h]
  rfl
theorem next_okF {c : Cfg} {o : Opn} {got : List Int} {d : List Acc} (h : goTr c o got = .ret (d, rz, false)) (h0 : 0 < d.length) (h1 : d.length ≤ 2000) : next_Tr c o got = .ret (rdE (EK.st SN.acc) d ((d.length - 1 : Nat) : Int), rz, false) := by
  unfold next_Tr
  rw [h]
  have e1 : w64 (Int.ofNat d.length - 1) = ((d.length - 1 : Nat) : Int) := by
    rw [show Int.ofNat d.length - 1 = ((d.length - 1 : Nat) : Int) by simp; omega]
    rw [w64_id] <;> omega
  have e2 : inR ((d.length - 1 : Nat) : Int) d.length = true := by simp [inR]; omega
  simp only [T.bind, cond_false, e1, e2, cond_true]
end Go.Ax.Cd
/- The package code by contracts (printed by wip/tools/con3.py). -/
namespace Go.Ax.Cd
open Go.Proofs
set_option linter.unusedVariables false
set_option maxRecDepth 100000
def lawFailsTr (c : Cfg) (o : Opn) : T (Bool) :=
 (liveFTr).bind fun x0 =>
 bif !x0 then
 .ret false
 else
 (mayFTr c []).bind fun x1 =>
 bif !x1 then
 .ret true
 else
 bif o.kind == 1 then
 (next_Tr c o [0, 0]).bind fun x2 =>
 bif !x2.2.2 then
 .ret true
 else
 .ret (x2.2.1.err == 2)
 else
 bif o.kind == 9 then
 bif o.a == o.b then
 (next_Tr c o [0, 0]).bind fun x2 =>
 bif x2.2.2 then
 (sameResTr x2.2.1 (Res.mk 5 0 [] [] [])).bind fun x3 =>
 bif x3 then
 (all_Tr c o [0, 0]).bind fun x4 =>
 .ret (Int.ofNat x4.length == 2)
 else
 .ret false
 else
 .ret false
 else
 (knownFTr o.a c.ids).bind fun x2 =>
 bif !x2 then
 (next_Tr c o [0, 0]).bind fun x3 =>
 bif x3.2.2 then
 (sameResTr x3.2.1 (Res.mk 2 0 [] [] [])).bind fun x4 =>
 bif x4 then
 (all_Tr c o [0, 0]).bind fun x5 =>
 .ret (Int.ofNat x5.length == 2)
 else
 .ret false
 else
 .ret false
 else
 (knownFTr o.b c.ids).bind fun x3 =>
 bif !x3 then
 (next_Tr c o [0, 0]).bind fun x4 =>
 bif x4.2.2 then
 (sameResTr x4.2.1 (Res.mk 2 0 [] [] [])).bind fun x5 =>
 bif x5 then
 (all_Tr c o [0, 0]).bind fun x6 =>
 .ret (Int.ofNat x6.length == 2)
 else
 .ret false
 else
 .ret false
 else
 (next_Tr c o [0, 0]).bind fun x4 =>
 bif !x4.2.2 then
 .ret true
 else
 .ret (x4.2.1.err == 2)
 else
 bif o.kind == 2 then
 (knownFTr o.a c.ids).bind fun x2 =>
 bif !x2 then
 (next_Tr c o [0, 0]).bind fun x3 =>
 bif x3.2.2 then
 (sameResTr x3.2.1 (Res.mk 2 0 [] [] [])).bind fun x4 =>
 bif x4 then
 (all_Tr c o [0, 0]).bind fun x5 =>
 .ret (Int.ofNat x5.length == 2)
 else
 .ret false
 else
 .ret false
 else
 (knownFTr o.b c.ids).bind fun x3 =>
 bif !x3 then
 (next_Tr c o [0, 0]).bind fun x4 =>
 bif x4.2.2 then
 (sameResTr x4.2.1 (Res.mk 2 0 [] [] [])).bind fun x5 =>
 bif x5 then
 (all_Tr c o [0, 0]).bind fun x6 =>
 .ret (Int.ofNat x6.length == 2)
 else
 .ret false
 else
 .ret false
 else
 (next_Tr c o [0, 0]).bind fun x4 =>
 bif !x4.2.2 then
 .ret true
 else
 .ret (x4.2.1.err == 2)
 else
 bif o.kind == 3 then
 (knownFTr o.a c.edgeIds).bind fun x2 =>
 bif !x2 then
 (next_Tr c o [0, 0]).bind fun x3 =>
 bif x3.2.2 then
 (sameResTr x3.2.1 (Res.mk 2 0 [] [] [])).bind fun x4 =>
 bif x4 then
 (all_Tr c o [0, 0]).bind fun x5 =>
 .ret (Int.ofNat x5.length == 2)
 else
 .ret false
 else
 .ret false
 else
 (next_Tr c o [0, 0]).bind fun x3 =>
 bif !x3.2.2 then
 .ret true
 else
 .ret (x3.2.1.err == 2)
 else
 bif o.kind == 4 then
 bif o.kind == 4 then
 (knownFTr o.a c.ids).bind fun x2 =>
 bif !x2 then
 (next_Tr c o [0, 0]).bind fun x3 =>
 bif x3.2.2 then
 (sameResTr x3.2.1 (Res.mk 2 0 [] [] [])).bind fun x4 =>
 bif x4 then
 (all_Tr c o [0, 0]).bind fun x5 =>
 .ret (Int.ofNat x5.length == 2)
 else
 .ret false
 else
 .ret false
 else
 (next_Tr c o [0, 0]).bind fun x3 =>
 bif !x3.2.2 then
 .ret true
 else
 .ret (x3.2.1.err == 2)
 else
 (next_Tr c o [0, 0]).bind fun x2 =>
 bif x2.2.2 then
 (sameResTr x2.2.1 (Res.mk 1 0 [] [] [])).bind fun x3 =>
 bif x3 then
 (all_Tr c o [0, 0]).bind fun x4 =>
 .ret (Int.ofNat x4.length == 2)
 else
 .ret false
 else
 .ret false
 else
 bif o.kind == 5 then
 bif o.kind == 5 then
 (knownFTr o.a c.ids).bind fun x2 =>
 bif !x2 then
 (next_Tr c o [0, 0]).bind fun x3 =>
 bif x3.2.2 then
 (sameResTr x3.2.1 (Res.mk 2 0 [] [] [])).bind fun x4 =>
 bif x4 then
 (all_Tr c o [0, 0]).bind fun x5 =>
 .ret (Int.ofNat x5.length == 2)
 else
 .ret false
 else
 .ret false
 else
 (next_Tr c o [0, 0]).bind fun x3 =>
 bif !x3.2.2 then
 .ret true
 else
 .ret (x3.2.1.err == 2)
 else
 (next_Tr c o [0, 0]).bind fun x2 =>
 bif x2.2.2 then
 (sameResTr x2.2.1 (Res.mk 1 0 [] [] [])).bind fun x3 =>
 bif x3 then
 (all_Tr c o [0, 0]).bind fun x4 =>
 .ret (Int.ofNat x4.length == 2)
 else
 .ret false
 else
 .ret false
 else
 bif o.kind == 6 then
 bif o.kind == 6 then
 (knownFTr o.a c.ids).bind fun x2 =>
 bif !x2 then
 (next_Tr c o [0, 0]).bind fun x3 =>
 bif x3.2.2 then
 (sameResTr x3.2.1 (Res.mk 2 0 [] [] [])).bind fun x4 =>
 bif x4 then
 (all_Tr c o [0, 0]).bind fun x5 =>
 .ret (Int.ofNat x5.length == 2)
 else
 .ret false
 else
 .ret false
 else
 (next_Tr c o [0, 0]).bind fun x3 =>
 bif !x3.2.2 then
 .ret true
 else
 .ret (x3.2.1.err == 2)
 else
 (next_Tr c o [0, 0]).bind fun x2 =>
 bif x2.2.2 then
 (sameResTr x2.2.1 (Res.mk 1 0 [] [] [])).bind fun x3 =>
 bif x3 then
 (all_Tr c o [0, 0]).bind fun x4 =>
 .ret (Int.ofNat x4.length == 2)
 else
 .ret false
 else
 .ret false
 else
 bif o.kind == 7 then
 bif o.kind == 7 then
 (knownFTr o.a c.ids).bind fun x2 =>
 bif !x2 then
 (next_Tr c o [0, 0]).bind fun x3 =>
 bif x3.2.2 then
 (sameResTr x3.2.1 (Res.mk 2 0 [] [] [])).bind fun x4 =>
 bif x4 then
 (all_Tr c o [0, 0]).bind fun x5 =>
 .ret (Int.ofNat x5.length == 2)
 else
 .ret false
 else
 .ret false
 else
 (next_Tr c o [0, 0]).bind fun x3 =>
 bif !x3.2.2 then
 .ret true
 else
 .ret (x3.2.1.err == 2)
 else
 (next_Tr c o [0, 0]).bind fun x2 =>
 bif x2.2.2 then
 (sameResTr x2.2.1 (Res.mk 1 0 [] [] [])).bind fun x3 =>
 bif x3 then
 (all_Tr c o [0, 0]).bind fun x4 =>
 .ret (Int.ofNat x4.length == 2)
 else
 .ret false
 else
 .ret false
 else
 bif o.kind == 8 then
 (knownFTr o.a c.ids).bind fun x2 =>
 bif !x2 then
 (next_Tr c o [0, 0]).bind fun x3 =>
 bif x3.2.2 then
 (sameResTr x3.2.1 (Res.mk 2 0 [] [] [])).bind fun x4 =>
 bif x4 then
 (all_Tr c o [0, 0]).bind fun x5 =>
 .ret (Int.ofNat x5.length == 2)
 else
 .ret false
 else
 .ret false
 else
 (next_Tr c o [0, 0]).bind fun x3 =>
 bif !x3.2.2 then
 .ret true
 else
 .ret (x3.2.1.err == 2)
 else
 (next_Tr c o [0, 0]).bind fun x2 =>
 bif x2.2.2 then
 (sameResTr x2.2.1 (Res.mk 1 0 [] [] [])).bind fun x3 =>
 bif x3 then
 (all_Tr c o [0, 0]).bind fun x4 =>
 .ret (Int.ofNat x4.length == 2)
 else
 .ret false
 else
 .ret false
@[reducible] def lawFailsI : PIf (VhL [.s (.e (.st .cfg)), .s (.e (.st .opn))] × OShL []) (VhL [vb] × OShL []) where
  α := Bool
  tr x := lawFailsTr x.1.1 x.1.2.1
  enc x a := ((a, ()), ())
abbrev lawFails_T : Type := VhL [.s (.e (.st .cfg)), .s (.e (.st .opn))] × OShL [] → Option (VhL [vb] × OShL [])
noncomputable abbrev lawFails_C (sp : lawFails_T) : Con := Con.of [.s (.e (.st .cfg)), .s (.e (.st .opn))] [] [vb] [] sp
theorem lawFails_raw (sp_next_ : next__T) (sp_all_ : all__T) (sp_knownF : knownF_T) (sp_mayF : mayF_T) (sp_liveF : liveF_T) (sp_sameRes : sameRes_T) (c : Cfg) (o : Opn) : runN Tryz.f8 [.s (.e (.st .cfg)), .s (.e (.st .opn))] [] [vb] [] [(12, next__C sp_next_), (16, all__C sp_all_), (18, knownF_C sp_knownF), (11, mayF_C sp_mayF), (10, liveF_C sp_liveF), (14, sameRes_C sp_sameRes)] [] [] (((c, o, ()), ()) : VhL [.s (.e (.st .cfg)), .s (.e (.st .opn))] × OShL []) = ((sp_liveF ((), ())).bind fun val => bif !val.1.1 then some ((false, ()), ()) else (sp_mayF ((c, [], ()), ())).bind fun val => bif !val.1.1 then some ((true, ()), ()) else bif o.kind == 1 then (sp_next_ ((c, o, [0, 0], ()), ())).bind fun val => bif !val.1.2.2.1 then some ((true, ()), ()) else some ((val.1.2.1.err == 2, ()), ()) else bif o.kind == 9 then bif o.a == o.b then (sp_next_ ((c, o, [0, 0], ()), ())).bind fun val => bif val.1.2.2.1 then (sp_sameRes ((val.1.2.1, Res.mk 5 0 [] [] [], ()), ())).bind fun val => bif val.1.1 then (sp_all_ ((c, o, [0, 0], ()), ())).bind fun val => some ((Int.ofNat (List.length val.1.1) == 2, ()), ()) else some ((false, ()), ()) else some ((false, ()), ()) else (sp_knownF ((o.a, c.ids, ()), ())).bind fun val => bif !val.1.1 then (sp_next_ ((c, o, [0, 0], ()), ())).bind fun val => bif val.1.2.2.1 then (sp_sameRes ((val.1.2.1, Res.mk 2 0 [] [] [], ()), ())).bind fun val => bif val.1.1 then (sp_all_ ((c, o, [0, 0], ()), ())).bind fun val => some ((Int.ofNat (List.length val.1.1) == 2, ()), ()) else some ((false, ()), ()) else some ((false, ()), ()) else (sp_knownF ((o.b, c.ids, ()), ())).bind fun val => bif !val.1.1 then (sp_next_ ((c, o, [0, 0], ()), ())).bind fun val => bif val.1.2.2.1 then (sp_sameRes ((val.1.2.1, Res.mk 2 0 [] [] [], ()), ())).bind fun val => bif val.1.1 then (sp_all_ ((c, o, [0, 0], ()), ())).bind fun val => some ((Int.ofNat (List.length val.1.1) == 2, ()), ()) else some ((false, ()), ()) else some ((false, ()), ()) else (sp_next_ ((c, o, [0, 0], ()), ())).bind fun val => bif !val.1.2.2.1 then some ((true, ()), ()) else some ((val.1.2.1.err == 2, ()), ()) else bif o.kind == 2 then (sp_knownF ((o.a, c.ids, ()), ())).bind fun val => bif !val.1.1 then (sp_next_ ((c, o, [0, 0], ()), ())).bind fun val => bif val.1.2.2.1 then (sp_sameRes ((val.1.2.1, Res.mk 2 0 [] [] [], ()), ())).bind fun val => bif val.1.1 then (sp_all_ ((c, o, [0, 0], ()), ())).bind fun val => some ((Int.ofNat (List.length val.1.1) == 2, ()), ()) else some ((false, ()), ()) else some ((false, ()), ()) else (sp_knownF ((o.b, c.ids, ()), ())).bind fun val => bif !val.1.1 then (sp_next_ ((c, o, [0, 0], ()), ())).bind fun val => bif val.1.2.2.1 then (sp_sameRes ((val.1.2.1, Res.mk 2 0 [] [] [], ()), ())).bind fun val => bif val.1.1 then (sp_all_ ((c, o, [0, 0], ()), ())).bind fun val => some ((Int.ofNat (List.length val.1.1) == 2, ()), ()) else some ((false, ()), ()) else some ((false, ()), ()) else (sp_next_ ((c, o, [0, 0], ()), ())).bind fun val => bif !val.1.2.2.1 then some ((true, ()), ()) else some ((val.1.2.1.err == 2, ()), ()) else bif o.kind == 3 then (sp_knownF ((o.a, c.edgeIds, ()), ())).bind fun val => bif !val.1.1 then (sp_next_ ((c, o, [0, 0], ()), ())).bind fun val => bif val.1.2.2.1 then (sp_sameRes ((val.1.2.1, Res.mk 2 0 [] [] [], ()), ())).bind fun val => bif val.1.1 then (sp_all_ ((c, o, [0, 0], ()), ())).bind fun val => some ((Int.ofNat (List.length val.1.1) == 2, ()), ()) else some ((false, ()), ()) else some ((false, ()), ()) else (sp_next_ ((c, o, [0, 0], ()), ())).bind fun val => bif !val.1.2.2.1 then some ((true, ()), ()) else some ((val.1.2.1.err == 2, ()), ()) else bif o.kind == 4 then bif o.kind == 4 then (sp_knownF ((o.a, c.ids, ()), ())).bind fun val => bif !val.1.1 then (sp_next_ ((c, o, [0, 0], ()), ())).bind fun val => bif val.1.2.2.1 then (sp_sameRes ((val.1.2.1, Res.mk 2 0 [] [] [], ()), ())).bind fun val => bif val.1.1 then (sp_all_ ((c, o, [0, 0], ()), ())).bind fun val => some ((Int.ofNat (List.length val.1.1) == 2, ()), ()) else some ((false, ()), ()) else some ((false, ()), ()) else (sp_next_ ((c, o, [0, 0], ()), ())).bind fun val => bif !val.1.2.2.1 then some ((true, ()), ()) else some ((val.1.2.1.err == 2, ()), ()) else (sp_next_ ((c, o, [0, 0], ()), ())).bind fun val => bif val.1.2.2.1 then (sp_sameRes ((val.1.2.1, Res.mk 1 0 [] [] [], ()), ())).bind fun val => bif val.1.1 then (sp_all_ ((c, o, [0, 0], ()), ())).bind fun val => some ((Int.ofNat (List.length val.1.1) == 2, ()), ()) else some ((false, ()), ()) else some ((false, ()), ()) else bif o.kind == 5 then bif o.kind == 5 then (sp_knownF ((o.a, c.ids, ()), ())).bind fun val => bif !val.1.1 then (sp_next_ ((c, o, [0, 0], ()), ())).bind fun val => bif val.1.2.2.1 then (sp_sameRes ((val.1.2.1, Res.mk 2 0 [] [] [], ()), ())).bind fun val => bif val.1.1 then (sp_all_ ((c, o, [0, 0], ()), ())).bind fun val => some ((Int.ofNat (List.length val.1.1) == 2, ()), ()) else some ((false, ()), ()) else some ((false, ()), ()) else (sp_next_ ((c, o, [0, 0], ()), ())).bind fun val => bif !val.1.2.2.1 then some ((true, ()), ()) else some ((val.1.2.1.err == 2, ()), ()) else (sp_next_ ((c, o, [0, 0], ()), ())).bind fun val => bif val.1.2.2.1 then (sp_sameRes ((val.1.2.1, Res.mk 1 0 [] [] [], ()), ())).bind fun val => bif val.1.1 then (sp_all_ ((c, o, [0, 0], ()), ())).bind fun val => some ((Int.ofNat (List.length val.1.1) == 2, ()), ()) else some ((false, ()), ()) else some ((false, ()), ()) else bif o.kind == 6 then bif o.kind == 6 then (sp_knownF ((o.a, c.ids, ()), ())).bind fun val => bif !val.1.1 then (sp_next_ ((c, o, [0, 0], ()), ())).bind fun val => bif val.1.2.2.1 then (sp_sameRes ((val.1.2.1, Res.mk 2 0 [] [] [], ()), ())).bind fun val => bif val.1.1 then (sp_all_ ((c, o, [0, 0], ()), ())).bind fun val => some ((Int.ofNat (List.length val.1.1) == 2, ()), ()) else some ((false, ()), ()) else some ((false, ()), ()) else (sp_next_ ((c, o, [0, 0], ()), ())).bind fun val => bif !val.1.2.2.1 then some ((true, ()), ()) else some ((val.1.2.1.err == 2, ()), ()) else (sp_next_ ((c, o, [0, 0], ()), ())).bind fun val => bif val.1.2.2.1 then (sp_sameRes ((val.1.2.1, Res.mk 1 0 [] [] [], ()), ())).bind fun val => bif val.1.1 then (sp_all_ ((c, o, [0, 0], ()), ())).bind fun val => some ((Int.ofNat (List.length val.1.1) == 2, ()), ()) else some ((false, ()), ()) else some ((false, ()), ()) else bif o.kind == 7 then bif o.kind == 7 then (sp_knownF ((o.a, c.ids, ()), ())).bind fun val => bif !val.1.1 then (sp_next_ ((c, o, [0, 0], ()), ())).bind fun val => bif val.1.2.2.1 then (sp_sameRes ((val.1.2.1, Res.mk 2 0 [] [] [], ()), ())).bind fun val => bif val.1.1 then (sp_all_ ((c, o, [0, 0], ()), ())).bind fun val => some ((Int.ofNat (List.length val.1.1) == 2, ()), ()) else some ((false, ()), ()) else some ((false, ()), ()) else (sp_next_ ((c, o, [0, 0], ()), ())).bind fun val => bif !val.1.2.2.1 then some ((true, ()), ()) else some ((val.1.2.1.err == 2, ()), ()) else (sp_next_ ((c, o, [0, 0], ()), ())).bind fun val => bif val.1.2.2.1 then (sp_sameRes ((val.1.2.1, Res.mk 1 0 [] [] [], ()), ())).bind fun val => bif val.1.1 then (sp_all_ ((c, o, [0, 0], ()), ())).bind fun val => some ((Int.ofNat (List.length val.1.1) == 2, ()), ()) else some ((false, ()), ()) else some ((false, ()), ()) else bif o.kind == 8 then (sp_knownF ((o.a, c.ids, ()), ())).bind fun val => bif !val.1.1 then (sp_next_ ((c, o, [0, 0], ()), ())).bind fun val => bif val.1.2.2.1 then (sp_sameRes ((val.1.2.1, Res.mk 2 0 [] [] [], ()), ())).bind fun val => bif val.1.1 then (sp_all_ ((c, o, [0, 0], ()), ())).bind fun val => some ((Int.ofNat (List.length val.1.1) == 2, ()), ()) else some ((false, ()), ()) else some ((false, ()), ()) else (sp_next_ ((c, o, [0, 0], ()), ())).bind fun val => bif !val.1.2.2.1 then some ((true, ()), ()) else some ((val.1.2.1.err == 2, ()), ()) else (sp_next_ ((c, o, [0, 0], ()), ())).bind fun val => bif val.1.2.2.1 then (sp_sameRes ((val.1.2.1, Res.mk 1 0 [] [] [], ()), ())).bind fun val => bif val.1.1 then (sp_all_ ((c, o, [0, 0], ()), ())).bind fun val => some ((Int.ofNat (List.length val.1.1) == 2, ()), ()) else some ((false, ()), ()) else some ((false, ()), ())) := by kernel_rfl
theorem lawFails_ok : Sound Tryz.prog gl 8 (lawFails_C (PIf.spec lawFailsI)) := by
  refine cnk (fn := Tryz.f8) (G := [(12, next__C (PIf.spec next_I)), (16, all__C (PIf.spec all_I)), (18, knownF_C (PIf.spec knownFI)), (11, mayF_C (PIf.spec mayFI)), (10, liveF_C (PIf.spec liveFI)), (14, sameRes_C (PIf.spec sameResI))]) (GOk.cons next__g next__ok (GOk.cons all__g all__ok (GOk.cons knownF_g knownF_ok (GOk.cons mayF_g mayF_ok (GOk.cons liveF_g liveF_ok (GOk.cons sameRes_g sameRes_ok (GOk.nil))))))) (by kernel_rfl) (by kernel_rfl) (Lc := []) (nh := []) (noloopN (by kernel_rfl)) ?_
  rintro ⟨⟨c, o, _⟩, _⟩
  refine (lawFails_raw (PIf.spec next_I) (PIf.spec all_I) (PIf.spec knownFI) (PIf.spec mayFI) (PIf.spec liveFI) (PIf.spec sameResI) c o).trans ?_
  show _ = ((lawFailsTr c o).val).map (lawFailsI.enc ((c, o, ()), ()))
  unfold lawFailsTr
  repeat' (first | refine cond_outP (fun _ => ?_) (fun _ => ?_) | (refine bindP (fun _ => ?_); try dsimp only [selim, cond_true, cond_false, Bool.not_true, Bool.not_false, one, none1, mI, next_I, all_I, knownFI, mayFI, liveFI, sameResI]) | rfl)
end Go.Ax.Cd
/- CodeFails, in plain Lean. -/
namespace Go.Ax.Cd
set_option linter.unusedVariables false
set_option linter.unusedSimpArgs false
theorem known_one {a : Int} {c : Cfg} {got held : List Int} : knownTr [a] c got held = .ret (decide (a ≥ 1) && decide (a ≤ c.ids)) := by
  have e1 : w64 (Int.ofNat ([a] : List Int).length - 1) = 0 := by rw [w64_id] <;> simp
  unfold knownTr
  rw [e1]
  by_cases h : a ≥ 1
  · simp [inR, rdE, rd, h]
  · simp [inR, rdE, rd, h]
theorem known_two {a b : Int} {c : Cfg} {got held : List Int} : knownTr [a, b] c got held = .ret (decide (min a b ≥ 1) && decide (max a b ≤ c.ids)) := by
  have e1 : w64 (Int.ofNat ([a, b] : List Int).length - 1) = 1 := by rw [w64_id] <;> simp
  unfold knownTr
  rw [e1]
  by_cases h : min a b ≥ 1
  · simp [inR, rdE, rd, h]
  · simp [inR, rdE, rd, h]
theorem knownF_ret {n m : Int} : knownFTr n m = .ret (decide (n ≥ 1) && decide (n ≤ m)) := by
  unfold knownFTr
  by_cases h : n ≥ 1 <;> simp [h]
abbrev g2 : List Int := [0, 0]
/-- It ends at once. -/
theorem fail_go {e : Int} {c : Cfg} {o : Opn} (h : programTr o c [0, 0] [] = .ret (Res.mk e 0 [] [] [], [])) : goTr c o [0, 0] = .ret ([pinA, endA], Res.mk e 0 [] [] [], true) := by
  refine go_ok ?_
  unfold runTr
  rw [h]
  rfl
/-- It asks for more. -/
theorem ask_go {c : Cfg} {o : Opn} (ha : In64 o.a) (hb : In64 o.b) (h : ∃ x k, programTr o c [0, 0] [] = .ask x k) : ∃ d, goTr c o [0, 0] = .ret (d, rz, false) ∧ d.length = 3 := by
  obtain ⟨x, k, h⟩ := h
  rcases run_exec (c := c) (o := o) (got := [0, 0]) (ro := decide (o.kind = 6 ∨ o.kind = 7)) rfl (by decide) (by simp [In64]) ha hb (fun h => decide_eq_false h) with ⟨r, d, b, h1, h2, h3, _⟩ | ⟨d, s, h1, h2, h3⟩
  · exfalso
    unfold runTr at h1
    rw [h] at h1
    have h4 : (((k 0).bind fun x => (freeTr x.2).bind fun _ => (T.ask ⟨2, 0, 0, 0, 0, 0⟩ .ret).bind fun _ => .ret x.1).exec [0, 0] [pinA, x]) = .ok r d := h1
    rw [T.exec_bind] at h4
    cases h5 : (k 0).exec [0, 0] [pinA, x] with
    | bot => rw [h5] at h4; cases h4
    | stop d => rw [h5] at h4; cases h4
    | ok y d1 =>
      rw [h5] at h4
      have l1 := ((T.exec_len (t := k 0) (got := [0, 0]) (d := [pinA, x]) (by simp)).1 _ _ h5)
      have h4' : (((freeTr y.2).bind fun _ => (T.ask ⟨2, 0, 0, 0, 0, 0⟩ .ret).bind fun _ => .ret y.1).exec [0, 0] d1) = .ok r d := h4
      rw [T.exec_bind] at h4'
      cases h6 : (freeTr y.2).exec [0, 0] d1 with
      | bot => rw [h6] at h4'; cases h4'
      | stop d => rw [h6] at h4'; cases h4'
      | ok z d2 =>
        rw [h6] at h4'
        have l2 := ((T.exec_len (t := freeTr y.2) (got := [0, 0]) (d := d1) l1.2.1).1 _ _ h6)
        have l3 : d2.length = 2 := by
          have := l1.1
          have := l2.1
          have := l2.2.1
          simp at *
          omega
        have h7 : (T.ask ⟨2, 0, 0, 0, 0, 0⟩ (fun _ => T.ret y.1)).exec [0, 0] d2 = .ok r d := h4'
        rw [T.exec] at h7
        rw [if_pos (by omega), if_neg (by rw [l3]; decide)] at h7
        cases h7
  · exact ⟨d, go_stop h1, h3⟩
theorem asks_bind {α β : Type} {t : T α} {f : α → T β} (h : ∃ x k, t = .ask x k) : ∃ x k, t.bind f = .ask x k := by
  obtain ⟨x, k, rfl⟩ := h
  exact ⟨x, _, rfl⟩
theorem latch_asks {l : List Int} (hl : l ≠ []) (h1 : ordG l = true) {c : Cfg} {held : List Int} : ∃ x k, latchTr l c [0, 0] held = .ask x k := by
  obtain ⟨y, r, hy⟩ : ∃ y r, ordSet l = y :: r := by
    cases h : ordSet l with
    | cons y r => exact ⟨y, r, rfl⟩
    | nil =>
      cases l with
      | nil => exact absurd rfl hl
      | cons a t =>
        have := (mem_ordSet (a :: t) a).2 List.mem_cons_self
        rw [h] at this
        cases this
  unfold latchTr
  rw [h1, hy]
  have e1 : decide ((0 : Int) < Int.ofNat (y :: r).length) = true := decide_eq_true (by simp)
  have e2 : inR 0 (y :: r).length = true := by simp [inR]
  have e3 : latchL0Step (y :: r) (Int.ofNat (y :: r).length) c [0, 0] (y :: r) 0 = (T.ask (Acc.mk 5 (rdE EK.int (y :: r) 0) 0 0 0 0) T.ret).bind fun x0 => .ret (Sum.inl (w64 (0 + 1))) := by
    simp only [latchL0Step, e1, e2, cond_true]
  show ∃ x k, ((T.loop (latchL0Step (y :: r) (Int.ofNat (y :: r).length) c [0, 0] (y :: r)) (11 + 1) 0).bind fun x => T.ret (y :: r)) = T.ask x k
  refine asks_bind ?_
  rw [T.loop, e3]
  exact asks_bind ⟨_, _, rfl⟩
/-- What the law asks of one that is to end with e. -/
theorem want_fail {e : Int} {c : Cfg} {o : Opn} (h : programTr o c [0, 0] [] = .ret (Res.mk e 0 [] [] [], [])) :
    ((next_Tr c o [0, 0]).bind fun x2 => bif x2.2.2 then (sameResTr x2.2.1 (Res.mk e 0 [] [] [])).bind fun x3 => bif x3 then (all_Tr c o [0, 0]).bind fun x4 => .ret (Int.ofNat x4.length == 2) else .ret false else .ret false) = T.ret true := by
  have hg := fail_go h
  rw [next_okT hg, all_ok hg]
  simp only [T.bind, cond_true, sameRes_refl (r := Res.mk e 0 [] [] []) ⟨Nat.zero_le _, Nat.zero_le _, Nat.zero_le _⟩]
  rfl
theorem want_more {c : Cfg} {o : Opn} (ha : In64 o.a) (hb : In64 o.b) (h : ∃ x k, programTr o c [0, 0] [] = .ask x k) : ((next_Tr c o [0, 0]).bind fun x2 => bif !x2.2.2 then .ret true else .ret (x2.2.1.err == 2)) = T.ret true := by
  obtain ⟨d, hg, hl⟩ := ask_go ha hb h
  rw [next_okF hg (by omega) (by omega)]
  rfl
theorem lawFails_true {c : Cfg} {o : Opn} (ha : In64 o.a) (hb : In64 o.b) : (lawFailsTr c o).val = some true := by
  unfold lawFailsTr
  rw [T.of_val live_ok]
  simp only [T.bind, Bool.not_true, cond_false]
  obtain ⟨b, hm, -⟩ := may_ok c []
  rw [hm]
  simp only [T.bind]
  cases b with
  | false => rfl
  | true =>
    simp only [Bool.not_true, cond_false, knownF_ret, T.bind]
    have two : (decide (min o.a o.b ≥ 1) && decide (max o.a o.b ≤ c.ids)) = ((decide (o.a ≥ 1) && decide (o.a ≤ c.ids)) && (decide (o.b ≥ 1) && decide (o.b ≤ c.ids))) := by
      rw [Bool.eq_iff_iff]
      simp only [Bool.and_eq_true, decide_eq_true_eq]
      constructor
      · intro h; omega
      · intro h; omega
    have fail : ∀ {e : Int}, programTr o c [0, 0] [] = .ret (Res.mk e 0 [] [] [], []) → ((next_Tr c o [0, 0]).bind fun x2 => bif x2.2.2 then (sameResTr x2.2.1 (Res.mk e 0 [] [] [])).bind fun x3 => bif x3 then (all_Tr c o [0, 0]).bind fun x4 => .ret (Int.ofNat x4.length == 2) else .ret false else .ret false).val = some true :=
      fun h => by rw [want_fail h]; rfl
    have more : (∃ x k, programTr o c [0, 0] [] = .ask x k) → ((next_Tr c o [0, 0]).bind fun x2 => bif !x2.2.2 then .ret true else .ret (x2.2.1.err == 2)).val = some true := fun h => by rw [want_more ha hb h]; rfl
    have g1 : ∀ {a : Int}, In64 a → ordG [a] = true := fun {a} h => by simp [ordG]; exact h
    have g3 : ∀ {a b : Int}, In64 a → In64 b → ordG [0, a, b] = true := fun {a b} h h' => by simp [ordG]; exact ⟨h, h'⟩
    by_cases k1 : o.kind = 1
    · simp only [k1, beq_self_eq_true, cond_true]
      refine more ?_
      unfold programTr addTr
      simp only [k1, beq_self_eq_true, cond_true]
      exact asks_bind (asks_bind (latch_asks (by simp) (by decide)))
    have j1 : (o.kind == 1) = false := beq_false_of_ne k1
    by_cases k9 : o.kind = 9
    · have hp : programTr o c [0, 0] [] = (fuseTr o.a o.b c [0, 0] []).bind fun x0 => .ret (x0.1, x0.2) := by
        unfold programTr
        rw [k9]
        rfl
      simp only [j1, k9, beq_self_eq_true, cond_true, cond_false]
      cases hab : o.a == o.b with
      | true =>
        simp only [cond_true]
        refine fail ?_
        rw [hp]
        unfold fuseTr
        rw [hab]
        rfl
      | false =>
        simp only [cond_false]
        cases hka : (decide (o.a ≥ 1) && decide (o.a ≤ c.ids)) with
        | false =>
          simp only [Bool.not_false, cond_true]
          refine fail ?_
          rw [hp]
          unfold fuseTr
          rw [hab, cond_false, known_two, two, hka]
          rfl
        | true =>
          simp only [Bool.not_true, cond_false]
          cases hkb : (decide (o.b ≥ 1) && decide (o.b ≤ c.ids)) with
          | false =>
            simp only [Bool.not_false, cond_true]
            refine fail ?_
            rw [hp]
            unfold fuseTr
            rw [hab, cond_false, known_two, two, hka, hkb]
            rfl
          | true =>
            simp only [Bool.not_true, cond_false]
            refine more ?_
            rw [hp]
            unfold fuseTr
            rw [hab, cond_false, known_two, two, hka, hkb]
            exact ⟨_, _, rfl⟩
    have j9 : (o.kind == 9) = false := beq_false_of_ne k9
    by_cases k2 : o.kind = 2
    · have hp : programTr o c [0, 0] [] = (linkTr o.a o.b c [0, 0] []).bind fun x0 => .ret (x0.1, x0.2) := by
        unfold programTr
        rw [k2]
        rfl
      simp only [j1, j9, k2, beq_self_eq_true, cond_true, cond_false]
      cases hka : (decide (o.a ≥ 1) && decide (o.a ≤ c.ids)) with
      | false =>
        simp only [Bool.not_false, cond_true]
        refine fail ?_
        rw [hp]
        unfold linkTr
        rw [known_two, two, hka]
        rfl
      | true =>
        simp only [Bool.not_true, cond_false]
        cases hkb : (decide (o.b ≥ 1) && decide (o.b ≤ c.ids)) with
        | false =>
          simp only [Bool.not_false, cond_true]
          refine fail ?_
          rw [hp]
          unfold linkTr
          rw [known_two, two, hka, hkb]
          rfl
        | true =>
          simp only [Bool.not_true, cond_false]
          refine more ?_
          rw [hp]
          unfold linkTr
          rw [known_two, two, hka, hkb]
          simp only [T.bind, Bool.and_self, Bool.not_true, cond_false]
          exact asks_bind (asks_bind (latch_asks (by simp) (g3 ha hb)))
    have j2 : (o.kind == 2) = false := beq_false_of_ne k2
    by_cases k3 : o.kind = 3
    · have hp : programTr o c [0, 0] [] = (cutTr o.a c [0, 0] []).bind fun x0 => .ret (x0.1, x0.2) := by
        unfold programTr
        rw [k3]
        rfl
      simp only [j1, j9, j2, k3, beq_self_eq_true, cond_true, cond_false]
      by_cases h1 : o.a ≥ 1
      · have h1' : decide (o.a < 1) = false := decide_eq_false (by omega)
        by_cases h2 : o.a ≤ c.edgeIds
        · have h2' : decide (o.a > c.edgeIds) = false := decide_eq_false (by omega)
          simp only [h1, h2, decide_true, Bool.and_self, Bool.not_true, cond_false]
          refine more ?_
          rw [hp]
          unfold cutTr
          rw [h1', h2']
          exact ⟨_, _, rfl⟩
        · have h2' : decide (o.a > c.edgeIds) = true := decide_eq_true (by omega)
          simp only [h1, h2, decide_true, decide_false, Bool.and_false, Bool.not_false, cond_true]
          refine fail ?_
          rw [hp]
          unfold cutTr
          rw [h1', h2']
          rfl
      · have h1' : decide (o.a < 1) = true := decide_eq_true (by omega)
        simp only [h1, decide_false, Bool.false_and, Bool.not_false, cond_true]
        refine fail ?_
        rw [hp]
        unfold cutTr
        rw [h1']
        rfl
    have j3 : (o.kind == 3) = false := beq_false_of_ne k3
    by_cases k4 : o.kind = 4
    · have hp : programTr o c [0, 0] [] = (setPropTr o.a o.k o.v c [0, 0] []).bind fun x0 => .ret (x0.1, x0.2) := by
        unfold programTr
        rw [k4]
        rfl
      simp only [j1, j9, j2, j3, k4, beq_self_eq_true, cond_true, cond_false]
      cases hka : (decide (o.a ≥ 1) && decide (o.a ≤ c.ids)) with
      | false =>
        simp only [Bool.not_false, cond_true]
        refine fail ?_
        rw [hp]
        unfold setPropTr
        rw [known_one, hka]
        rfl
      | true =>
        simp only [Bool.not_true, cond_false]
        refine more ?_
        rw [hp]
        unfold setPropTr
        rw [known_one, hka]
        simp only [T.bind, Bool.not_true, cond_false]
        exact asks_bind (asks_bind (latch_asks (by simp) (g1 ha)))
    have j4 : (o.kind == 4) = false := beq_false_of_ne k4
    by_cases k5 : o.kind = 5
    · have hp : programTr o c [0, 0] [] = (delPropTr o.a o.k c [0, 0] []).bind fun x0 => .ret (x0.1, x0.2) := by
        unfold programTr
        rw [k5]
        rfl
      simp only [j1, j9, j2, j3, j4, k5, beq_self_eq_true, cond_true, cond_false]
      cases hka : (decide (o.a ≥ 1) && decide (o.a ≤ c.ids)) with
      | false =>
        simp only [Bool.not_false, cond_true]
        refine fail ?_
        rw [hp]
        unfold delPropTr
        rw [known_one, hka]
        rfl
      | true =>
        simp only [Bool.not_true, cond_false]
        refine more ?_
        rw [hp]
        unfold delPropTr
        rw [known_one, hka]
        simp only [T.bind, Bool.not_true, cond_false]
        exact asks_bind (asks_bind (latch_asks (by simp) (g1 ha)))
    have j5 : (o.kind == 5) = false := beq_false_of_ne k5
    by_cases k6 : o.kind = 6
    · have hp : programTr o c [0, 0] [] = (lookPTr o.a c [0, 0] []).bind fun x0 => .ret (x0, []) := by
        unfold programTr
        rw [k6]
        rfl
      simp only [j1, j9, j2, j3, j4, j5, k6, beq_self_eq_true, cond_true, cond_false]
      cases hka : (decide (o.a ≥ 1) && decide (o.a ≤ c.ids)) with
      | false =>
        simp only [Bool.not_false, cond_true]
        refine fail ?_
        rw [hp]
        unfold lookPTr
        rw [known_one, hka]
        rfl
      | true =>
        simp only [Bool.not_true, cond_false]
        refine more ?_
        rw [hp]
        unfold lookPTr
        rw [known_one, hka]
        exact ⟨_, _, rfl⟩
    have j6 : (o.kind == 6) = false := beq_false_of_ne k6
    by_cases k7 : o.kind = 7
    · have hp : programTr o c [0, 0] [] = (lookNTr o.a c [0, 0] []).bind fun x0 => .ret (x0, []) := by
        unfold programTr
        rw [k7]
        rfl
      simp only [j1, j9, j2, j3, j4, j5, j6, k7, beq_self_eq_true, cond_true, cond_false]
      cases hka : (decide (o.a ≥ 1) && decide (o.a ≤ c.ids)) with
      | false =>
        simp only [Bool.not_false, cond_true]
        refine fail ?_
        rw [hp]
        unfold lookNTr
        rw [known_one, hka]
        rfl
      | true =>
        simp only [Bool.not_true, cond_false]
        refine more ?_
        rw [hp]
        unfold lookNTr
        rw [known_one, hka]
        exact ⟨_, _, rfl⟩
    have j7 : (o.kind == 7) = false := beq_false_of_ne k7
    by_cases k8 : o.kind = 8
    · have hp : programTr o c [0, 0] [] = (dropTr o.a c [0, 0] []).bind fun x0 => .ret (x0.1, x0.2) := by
        unfold programTr
        rw [k8]
        rfl
      simp only [j1, j9, j2, j3, j4, j5, j6, j7, k8, beq_self_eq_true, cond_true, cond_false]
      cases hka : (decide (o.a ≥ 1) && decide (o.a ≤ c.ids)) with
      | false =>
        simp only [Bool.not_false, cond_true]
        refine fail ?_
        rw [hp]
        unfold dropTr
        rw [known_one, hka]
        rfl
      | true =>
        simp only [Bool.not_true, cond_false]
        refine more ?_
        rw [hp]
        unfold dropTr
        rw [known_one, hka]
        exact ⟨_, _, rfl⟩
    have j8 : (o.kind == 8) = false := beq_false_of_ne k8
    simp only [j1, j9, j2, j3, j4, j5, j6, j7, j8, cond_false]
    refine fail ?_
    unfold programTr
    simp only [j1, j9, j2, j3, j4, j5, j6, j7, j8, cond_false]
end Go.Ax.Cd
