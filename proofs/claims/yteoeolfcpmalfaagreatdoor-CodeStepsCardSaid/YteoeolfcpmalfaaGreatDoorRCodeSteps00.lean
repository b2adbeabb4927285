/- The chapter's example. -/
import Derived.Test.YteoeolfcpmalfaaGreatDoorQ34
import Derived.Test.YteoeolfcpmalfaaGreatDoorQ35
import Derived.KernelRfl
namespace Go.Ax.Cd
theorem live_ok : liveFTr.val = some true := by kernel_rfl
theorem go_ok {c : Cfg} {o : Opn} {got : List Int} {r : Res} {d : List Acc} (h : (runTr c o got).exec got [] = .ok r d) : goTr c o got = .ret (d, r, true) := by
  unfold goTr
  rw [h]
theorem go_stop {c : Cfg} {o : Opn} {got : List Int} {d : List Acc} (h : (runTr c o got).exec got [] = .stop d) : goTr c o got = .ret (d, rz, false) := by
  unfold goTr
  rw [h]
theorem samePr_refl (a : List Pr) (h : a.length ≤ 1000) : samePrTr a a = .ret true := by
  have key : ∀ (j i f : Nat), i + j = a.length → j < f → T.loop (samePrL0Step a a (Int.ofNat a.length)) f (i : Int) = .ret (.inl ()) := by
    intro j
    induction j with
    | zero =>
      intro i f hi hf
      obtain ⟨f, rfl⟩ : ∃ q, f = q + 1 := ⟨f - 1, by omega⟩
      rw [T.loop]
      unfold samePrL0Step
      dsimp only
      rw [decide_eq_false (by simp; omega), cond_false]
      rfl
    | succ j ih =>
      intro i f hi hf
      obtain ⟨f, rfl⟩ : ∃ q, f = q + 1 := ⟨f - 1, by omega⟩
      have e1 : inR (i : Int) a.length = true := by simp [inR]; omega
      have e2 : w64 ((i : Int) + 1) = ((i + 1 : Nat) : Int) := by rw [w64_id] <;> omega
      have es : samePrL0Step a a (Int.ofNat a.length) (i : Int) = .ret (.inl ((i + 1 : Nat) : Int)) := by
        unfold samePrL0Step
        dsimp only
        rw [decide_eq_true (by simp; omega), cond_true, e1, cond_true, cond_true, e2]
        simp only [beq_self_eq_true, Bool.and_true, Bool.not_true, cond_false]
      rw [T.loop, es]
      exact ih (i + 1) f (by omega) (by omega)
  unfold samePrTr
  have e := key a.length 0 4611686018427387904 (by omega) (by omega)
  rw [show ((0 : Nat) : Int) = 0 from rfl] at e
  rw [e]
  simp [T.bind, selim]
theorem sameEn_refl (a : List En) (h : a.length ≤ 1000) : sameEnTr a a = .ret true := by
  have key : ∀ (j i f : Nat), i + j = a.length → j < f → T.loop (sameEnL0Step a a (Int.ofNat a.length)) f (i : Int) = .ret (.inl ()) := by
    intro j
    induction j with
    | zero =>
      intro i f hi hf
      obtain ⟨f, rfl⟩ : ∃ q, f = q + 1 := ⟨f - 1, by omega⟩
      rw [T.loop]
      unfold sameEnL0Step
      dsimp only
      rw [decide_eq_false (by simp; omega), cond_false]
      rfl
    | succ j ih =>
      intro i f hi hf
      obtain ⟨f, rfl⟩ : ∃ q, f = q + 1 := ⟨f - 1, by omega⟩
      have e1 : inR (i : Int) a.length = true := by simp [inR]; omega
      have e2 : w64 ((i : Int) + 1) = ((i + 1 : Nat) : Int) := by rw [w64_id] <;> omega
      have es : sameEnL0Step a a (Int.ofNat a.length) (i : Int) = .ret (.inl ((i + 1 : Nat) : Int)) := by
        unfold sameEnL0Step
        dsimp only
        rw [decide_eq_true (by simp; omega), cond_true, e1, cond_true, cond_true, e2]
        simp only [beq_self_eq_true, Bool.and_true, Bool.not_true, cond_false]
      rw [T.loop, es]
      exact ih (i + 1) f (by omega) (by omega)
  unfold sameEnTr
  have e := key a.length 0 4611686018427387904 (by omega) (by omega)
  rw [show ((0 : Nat) : Int) = 0 from rfl] at e
  rw [e]
  simp [T.bind, selim]
theorem sameRes_refl {r : Res} (h : Sm r) : sameResTr r r = .ret true := by
  unfold sameResTr
  rw [samePr_refl _ h.1, sameEn_refl _ h.2.1, sameEn_refl _ h.2.2]
  simp [T.bind]
theorem may_ok (c : Cfg) (got : List Int) : ∃ b, mayFTr c got = .ret b ∧ (b = true → got.length ≤ 200) := by
  have key : ∀ {x : Bool} {t : T Bool}, (∃ b, t = .ret b ∧ (b = true → got.length ≤ 200)) → ∃ b, (bif x then t else .ret false) = .ret b ∧ (b = true → got.length ≤ 200) := fun {x t} h => by
    cases x with
    | true => exact h
    | false => exact ⟨false, rfl, fun h => by cases h⟩
  unfold mayFTr
  refine key (key (key (key (key (key (key (key (key (key ⟨_, rfl, fun h => ?_⟩)))))))))
  have := of_decide_eq_true h
  simp at this
  omega
end Go.Ax.Cd
/- What the laws call, in plain Lean. -/
namespace Go.Ax.Cd
set_option linter.unusedVariables false
theorem T.of_val {α : Type} {t : T α} {a : α} (h : t.val = some a) : t = .ret a := by
  cases t with
  | ret b => simp [T.val, T.exec] at h; rw [h]
  | ask c k => simp [T.val, T.exec] at h
  | bot => simp [T.val, T.exec] at h
theorem all_ok {c : Cfg} {o : Opn} {got : List Int} {x : List Acc × Res × Bool} (h : goTr c o got = .ret x) : all_Tr c o got = .ret x.1 := by
  unfold all_Tr
  rw [h]
  rfl
theorem next_okT {c : Cfg} {o : Opn} {got : List Int} {d : List Acc} {r : Res} (h : goTr c o got = .ret (d, r, true)) : next_Tr c o got = .ret (⟨0, 0, 0, 0, 0, 0⟩, r, true) := by
  unfold next_Tr
  rw [h]
  rfl
theorem next_okF {c : Cfg} {o : Opn} {got : List Int} {d : List Acc} (h : goTr c o got = .ret (d, rz, false)) (h0 : 0 < d.length) (h1 : d.length ≤ 2000) : next_Tr c o got = .ret (rdE (EK.st SN.acc) d ((d.length - 1 : Nat) : Int), rz, false) := by
  unfold next_Tr
  rw [h]
  have e1 : w64 (Int.ofNat d.length - 1) = ((d.length - 1 : Nat) : Int) := by
    rw [show Int.ofNat d.length - 1 = ((d.length - 1 : Nat) : Int) by simp; omega]
    rw [w64_id] <;> omega
  have e2 : inR ((d.length - 1 : Nat) : Int) d.length = true := by simp [inR]; omega
  simp only [T.bind, cond_false, e1, e2, cond_true]
end Go.Ax.Cd
/- With fewer answers more is used up, and nothing else is different. -/
namespace Go.Ax.Cd
set_option linter.unusedVariables false
theorem le_selim {α β γ : Type} {b : α ⊕ β} {f f' : α → T γ} {g g' : β → T γ} (h1 : ∀ x, (f x).le (f' x)) (h2 : ∀ x, (g x).le (g' x)) : (selim b f g).le (selim b f' g') := by
  cases b with
  | inl x => exact h1 x
  | inr x => exact h2 x
section
variable {got got' : List Int}
theorem loadTr_le {w : Int} {r : Int} {f : Int} {c : Cfg} {held : List Int} (h : got.length ≤ got'.length) : (loadTr w r f c got held).le (loadTr w r f c got' held) := by
  unfold loadTr
  repeat' (first | with_reducible exact T.le_refl _ | with_reducible refine T.le_bind ?_ (fun _ => ?_))
theorem storeTr_le {w : Int} {r : Int} {f : Int} {v : Int} {c : Cfg} {held : List Int} (h : got.length ≤ got'.length) : (storeTr w r f v c got held).le (storeTr w r f v c got' held) := by
  unfold storeTr
  repeat' (first | with_reducible exact T.le_refl _ | with_reducible refine T.le_bind ?_ (fun _ => ?_))
theorem retireTr_le {w : Int} {r : Int} {c : Cfg} {held : List Int} (h : got.length ≤ got'.length) : (retireTr w r c got held).le (retireTr w r c got' held) := by
  unfold retireTr
  repeat' (first | with_reducible exact T.le_refl _ | with_reducible refine T.le_bind ?_ (fun _ => ?_))
theorem wordTr_le {n : Int} {c : Cfg} {held : List Int} (h : got.length ≤ got'.length) : (wordTr n c got held).le (wordTr n c got' held) := by
  unfold wordTr
  repeat' (first | with_reducible exact T.le_refl _ | with_reducible refine T.le_bind ?_ (fun _ => ?_))
theorem seeTr_le {n : Int} {c : Cfg} {held : List Int} (h : got.length ≤ got'.length) : (seeTr n c got held).le (seeTr n c got' held) := by
  unfold seeTr
  repeat' (first | with_reducible exact T.le_refl _ | with_reducible refine T.le_bind ?_ (fun _ => ?_))
theorem setTr_le {n : Int} {v : Int} {c : Cfg} {held : List Int} (h : got.length ≤ got'.length) : (setTr n v c got held).le (setTr n v c got' held) := by
  unfold setTr
  repeat' (first | with_reducible exact T.le_refl _ | with_reducible refine T.le_bind ?_ (fun _ => ?_))
theorem takeTr_le {w : Int} {c : Cfg} {held : List Int} (h : got.length ≤ got'.length) : (takeTr w c got held).le (takeTr w c got' held) := by
  unfold takeTr
  repeat' (first | with_reducible exact T.le_refl _ | with_reducible refine T.le_bind ?_ (fun _ => ?_))
theorem nextTr_le {w : Int} {r : Int} {f : Int} {c : Cfg} {held : List Int} (h : got.length ≤ got'.length) : (nextTr w r f c got held).le (nextTr w r f c got' held) := by
  unfold nextTr
  repeat' (first | with_reducible exact T.le_refl _ | with_reducible exact loadTr_le h | with_reducible refine T.le_bind ?_ (fun _ => ?_))
theorem findTr_le {n : Int} {c : Cfg} {held : List Int} (h : got.length ≤ got'.length) : (findTr n c got held).le (findTr n c got' held) := by
  unfold findTr
  repeat' (first | with_reducible exact T.le_refl _ | with_reducible exact wordTr_le h | with_reducible refine T.le_bind ?_ (fun _ => ?_))
theorem knownTr_le {l : List Int} {c : Cfg} {held : List Int} (h : got.length ≤ got'.length) : (knownTr l c got held).le (knownTr l c got' held) := by
  unfold knownTr
  repeat' (first | with_reducible exact T.le_refl _ | with_reducible refine T.le_cond ?_ ?_)
theorem unlinkL0Step_le {v3 : Int} {c : Cfg} {held : List Int} {v9 : Sid} {v11 : Int} {v12 : Int} {v14 : Int} {st : Int} (h : got.length ≤ got'.length) : (unlinkL0Step v3 c got held v9 v11 v12 v14 st).le (unlinkL0Step v3 c got' held v9 v11 v12 v14 st) := by
  unfold unlinkL0Step
  dsimp only
  repeat' (first | with_reducible exact T.le_refl _ | with_reducible exact nextTr_le h | with_reducible exact storeTr_le h | with_reducible refine T.le_bind ?_ (fun _ => ?_) | with_reducible refine T.le_cond ?_ ?_ | with_reducible refine le_selim (fun _ => ?_) (fun _ => ?_))
theorem unlinkTr_le {s : Sid} {n : Int} {w : Int} {r : Int} {c : Cfg} {held : List Int} (h : got.length ≤ got'.length) : (unlinkTr s n w r c got held).le (unlinkTr s n w r c got' held) := by
  unfold unlinkTr
  repeat' (first | with_reducible exact T.le_refl _ | with_reducible exact T.le_loop (fun x => unlinkL0Step_le h) _ _ _ (by omega) | with_reducible exact findTr_le h | with_reducible exact storeTr_le h | with_reducible exact loadTr_le h | with_reducible refine T.le_bind ?_ (fun _ => ?_) | with_reducible refine T.le_cond ?_ ?_ | with_reducible refine le_selim (fun _ => ?_) (fun _ => ?_))
theorem latchL0Step_le {v1 : List Int} {v2 : Int} {c : Cfg} {held : List Int} {st : Int} (h : got.length ≤ got'.length) : (latchL0Step v1 v2 c got held st).le (latchL0Step v1 v2 c got' held st) := by
  unfold latchL0Step
  dsimp only
  repeat' (first | with_reducible exact T.le_refl _ | with_reducible refine T.le_bind ?_ (fun _ => ?_) | with_reducible refine T.le_cond ?_ ?_ | with_reducible refine le_selim (fun _ => ?_) (fun _ => ?_))
theorem latchTr_le {l : List Int} {c : Cfg} {held : List Int} (h : got.length ≤ got'.length) : (latchTr l c got held).le (latchTr l c got' held) := by
  unfold latchTr
  repeat' (first | with_reducible exact T.le_refl _ | with_reducible exact T.le_loop (fun x => latchL0Step_le h) _ _ _ (by omega) | with_reducible refine T.le_bind ?_ (fun _ => ?_))
theorem addTr_le {c : Cfg} {held : List Int} (h : got.length ≤ got'.length) : (addTr c got held).le (addTr c got' held) := by
  unfold addTr
  repeat' (first | with_reducible exact T.le_refl _ | with_reducible exact latchTr_le h | with_reducible exact takeTr_le h | with_reducible exact setTr_le h | with_reducible exact wordTr_le h | with_reducible exact storeTr_le h | with_reducible refine T.le_bind ?_ (fun _ => ?_) | with_reducible refine T.le_cond ?_ ?_)
theorem linkTr_le {a : Int} {b : Int} {c : Cfg} {held : List Int} (h : got.length ≤ got'.length) : (linkTr a b c got held).le (linkTr a b c got' held) := by
  unfold linkTr
  repeat' (first | with_reducible exact T.le_refl _ | with_reducible exact latchTr_le h | with_reducible exact knownTr_le h | with_reducible exact findTr_le h | with_reducible exact takeTr_le h | with_reducible exact setTr_le h | with_reducible exact wordTr_le h | with_reducible exact storeTr_le h | with_reducible exact loadTr_le h | with_reducible refine T.le_bind ?_ (fun _ => ?_) | with_reducible refine T.le_cond ?_ ?_)
theorem cutL0Step_le {v1 : Int} {c : Cfg} {v9 : Res} {st : List Int × Int × Int} (h : got.length ≤ got'.length) : (cutL0Step v1 c got v9 st).le (cutL0Step v1 c got' v9 st) := by
  unfold cutL0Step
  dsimp only
  repeat' (first | with_reducible exact T.le_refl _ | with_reducible exact latchTr_le h | with_reducible exact unlinkTr_le h | with_reducible exact setTr_le h | with_reducible exact wordTr_le h | with_reducible exact retireTr_le h | with_reducible exact loadTr_le h | with_reducible refine T.le_bind ?_ (fun _ => ?_) | with_reducible refine T.le_cond ?_ ?_ | with_reducible refine le_selim (fun _ => ?_) (fun _ => ?_))
theorem cutTr_le {i : Int} {c : Cfg} {held : List Int} (h : got.length ≤ got'.length) : (cutTr i c got held).le (cutTr i c got' held) := by
  unfold cutTr
  repeat' (first | with_reducible exact T.le_refl _ | with_reducible exact T.le_loop (fun x => cutL0Step_le h) _ _ _ (by omega) | with_reducible refine T.le_bind ?_ (fun _ => ?_) | with_reducible refine T.le_cond ?_ ?_)
theorem aroundCTr_le {w : Int} {r : Int} {c : Cfg} {held : List Int} {sd : Sid} {us : List Int} (h : got.length ≤ got'.length) : (aroundCTr w r c got held sd us).le (aroundCTr w r c got' held sd us) := by
  unfold aroundCTr
  repeat' (first | with_reducible exact T.le_refl _ | with_reducible exact loadTr_le h | with_reducible refine T.le_bind ?_ (fun _ => ?_) | with_reducible refine T.le_cond ?_ ?_)
theorem eachAL0Step_le {c : Cfg} {held : List Int} {sd : Sid} {v12 : Sid} {v14 : Int} {st : List Int × Int} (h : got.length ≤ got'.length) : (eachAL0Step c got held sd v12 v14 st).le (eachAL0Step c got' held sd v12 v14 st) := by
  unfold eachAL0Step
  dsimp only
  repeat' (first | with_reducible exact T.le_refl _ | with_reducible exact aroundCTr_le h | with_reducible exact nextTr_le h | with_reducible refine T.le_bind ?_ (fun _ => ?_) | with_reducible refine T.le_cond ?_ ?_ | with_reducible refine le_selim (fun _ => ?_) (fun _ => ?_))
theorem eachATr_le {w : Int} {r : Int} {s : Sid} {c : Cfg} {held : List Int} {sd : Sid} {us : List Int} (h : got.length ≤ got'.length) : (eachATr w r s c got held sd us).le (eachATr w r s c got' held sd us) := by
  unfold eachATr
  repeat' (first | with_reducible exact T.le_refl _ | with_reducible exact T.le_loop (fun x => eachAL0Step_le h) _ _ _ (by omega) | with_reducible exact loadTr_le h | with_reducible refine T.le_bind ?_ (fun _ => ?_))
theorem aroundTr_le {w : Int} {r : Int} {c : Cfg} {held : List Int} (h : got.length ≤ got'.length) : (aroundTr w r c got held).le (aroundTr w r c got' held) := by
  unfold aroundTr
  repeat' (first | with_reducible exact T.le_refl _ | with_reducible exact eachATr_le h | with_reducible refine T.le_bind ?_ (fun _ => ?_))
theorem setCTr_le {w : Int} {r : Int} {w2 : Int} {r2 : Int} {c : Cfg} {held : List Int} {k : Int} {v : Int} (h : got.length ≤ got'.length) : (setCTr w r w2 r2 c got held k v).le (setCTr w r w2 r2 c got' held k v) := by
  unfold setCTr
  repeat' (first | with_reducible exact T.le_refl _ | with_reducible exact storeTr_le h | with_reducible exact loadTr_le h | with_reducible refine T.le_bind ?_ (fun _ => ?_) | with_reducible refine T.le_cond ?_ ?_)
theorem walkSL0Step_le {c : Cfg} {held : List Int} {k : Int} {v : Int} {v15 : Int} {st : Int × Int × Int} (h : got.length ≤ got'.length) : (walkSL0Step c got held k v v15 st).le (walkSL0Step c got' held k v v15 st) := by
  unfold walkSL0Step
  dsimp only
  repeat' (first | with_reducible exact T.le_refl _ | with_reducible exact setCTr_le h | with_reducible exact nextTr_le h | with_reducible refine T.le_bind ?_ (fun _ => ?_) | with_reducible refine T.le_cond ?_ ?_ | with_reducible refine le_selim (fun _ => ?_) (fun _ => ?_))
theorem walkSTr_le {w : Int} {r : Int} {c : Cfg} {held : List Int} {k : Int} {v : Int} (h : got.length ≤ got'.length) : (walkSTr w r c got held k v).le (walkSTr w r c got' held k v) := by
  unfold walkSTr
  repeat' (first | with_reducible exact T.le_refl _ | with_reducible exact T.le_loop (fun x => walkSL0Step_le h) _ _ _ (by omega) | with_reducible refine T.le_bind ?_ (fun _ => ?_) | with_reducible refine le_selim (fun _ => ?_) (fun _ => ?_))
theorem delCTr_le {w : Int} {r : Int} {w2 : Int} {r2 : Int} {c : Cfg} {held : List Int} {k : Int} {w3 : Int} {r3 : Int} (h : got.length ≤ got'.length) : (delCTr w r w2 r2 c got held k w3 r3).le (delCTr w r w2 r2 c got' held k w3 r3) := by
  unfold delCTr
  repeat' (first | with_reducible exact T.le_refl _ | with_reducible exact retireTr_le h | with_reducible exact storeTr_le h | with_reducible exact loadTr_le h | with_reducible refine T.le_bind ?_ (fun _ => ?_) | with_reducible refine T.le_cond ?_ ?_)
theorem walkDL0Step_le {c : Cfg} {held : List Int} {k : Int} {w3 : Int} {r3 : Int} {v17 : Int} {st : Int × Int × Int} (h : got.length ≤ got'.length) : (walkDL0Step c got held k w3 r3 v17 st).le (walkDL0Step c got' held k w3 r3 v17 st) := by
  unfold walkDL0Step
  dsimp only
  repeat' (first | with_reducible exact T.le_refl _ | with_reducible exact delCTr_le h | with_reducible exact nextTr_le h | with_reducible refine T.le_bind ?_ (fun _ => ?_) | with_reducible refine T.le_cond ?_ ?_ | with_reducible refine le_selim (fun _ => ?_) (fun _ => ?_))
theorem walkDTr_le {w : Int} {r : Int} {c : Cfg} {held : List Int} {k : Int} {w3 : Int} {r3 : Int} (h : got.length ≤ got'.length) : (walkDTr w r c got held k w3 r3).le (walkDTr w r c got' held k w3 r3) := by
  unfold walkDTr
  repeat' (first | with_reducible exact T.le_refl _ | with_reducible exact T.le_loop (fun x => walkDL0Step_le h) _ _ _ (by omega) | with_reducible refine T.le_bind ?_ (fun _ => ?_) | with_reducible refine le_selim (fun _ => ?_) (fun _ => ?_))
theorem pairsCTr_le {w : Int} {r : Int} {w2 : Int} {r2 : Int} {c : Cfg} {held : List Int} {er : Int} {id : Int} {eo : List En} {ei : List En} {pr : List Pr} (h : got.length ≤ got'.length) : (pairsCTr w r w2 r2 c got held er id eo ei pr).le (pairsCTr w r w2 r2 c got' held er id eo ei pr) := by
  unfold pairsCTr
  repeat' (first | with_reducible exact T.le_refl _ | with_reducible exact loadTr_le h | with_reducible refine T.le_bind ?_ (fun _ => ?_) | with_reducible refine T.le_cond ?_ ?_)
theorem walkPL0Step_le {c : Cfg} {held : List Int} {er : Int} {id : Int} {eo : List En} {ei : List En} {v18 : Int} {st : List Pr × Int × Int × Int} (h : got.length ≤ got'.length) : (walkPL0Step c got held er id eo ei v18 st).le (walkPL0Step c got' held er id eo ei v18 st) := by
  unfold walkPL0Step
  dsimp only
  repeat' (first | with_reducible exact T.le_refl _ | with_reducible exact pairsCTr_le h | with_reducible exact nextTr_le h | with_reducible refine T.le_bind ?_ (fun _ => ?_) | with_reducible refine T.le_cond ?_ ?_ | with_reducible refine le_selim (fun _ => ?_) (fun _ => ?_))
theorem walkPTr_le {w : Int} {r : Int} {c : Cfg} {held : List Int} {er : Int} {id : Int} {eo : List En} {ei : List En} {pr : List Pr} (h : got.length ≤ got'.length) : (walkPTr w r c got held er id eo ei pr).le (walkPTr w r c got' held er id eo ei pr) := by
  unfold walkPTr
  repeat' (first | with_reducible exact T.le_refl _ | with_reducible exact T.le_loop (fun x => walkPL0Step_le h) _ _ _ (by omega) | with_reducible refine T.le_bind ?_ (fun _ => ?_) | with_reducible refine le_selim (fun _ => ?_) (fun _ => ?_))
theorem fuseCTr_le {w : Int} {r : Int} {w2 : Int} {r2 : Int} {c : Cfg} {held : List Int} {k : Int} (h : got.length ≤ got'.length) : (fuseCTr w r w2 r2 c got held k).le (fuseCTr w r w2 r2 c got' held k) := by
  unfold fuseCTr
  repeat' (first | with_reducible exact T.le_refl _ | with_reducible exact loadTr_le h | with_reducible refine T.le_bind ?_ (fun _ => ?_))
theorem walkFL0Step_le {c : Cfg} {held : List Int} {k : Int} {v13 : Int} {st : Int × Int × Int} (h : got.length ≤ got'.length) : (walkFL0Step c got held k v13 st).le (walkFL0Step c got' held k v13 st) := by
  unfold walkFL0Step
  dsimp only
  repeat' (first | with_reducible exact T.le_refl _ | with_reducible exact fuseCTr_le h | with_reducible exact nextTr_le h | with_reducible refine T.le_bind ?_ (fun _ => ?_) | with_reducible refine T.le_cond ?_ ?_ | with_reducible refine le_selim (fun _ => ?_) (fun _ => ?_))
theorem walkFTr_le {w : Int} {r : Int} {c : Cfg} {held : List Int} {k : Int} (h : got.length ≤ got'.length) : (walkFTr w r c got held k).le (walkFTr w r c got' held k) := by
  unfold walkFTr
  repeat' (first | with_reducible exact T.le_refl _ | with_reducible exact T.le_loop (fun x => walkFL0Step_le h) _ _ _ (by omega) | with_reducible refine T.le_bind ?_ (fun _ => ?_) | with_reducible refine le_selim (fun _ => ?_) (fun _ => ?_))
theorem endsCoTr_le {w : Int} {r : Int} {c : Cfg} {held : List Int} {sd : Sid} {er : Int} {id : Int} {ps : List Pr} {u1 : List En} {u2 : List En} (h : got.length ≤ got'.length) : (endsCoTr w r c got held sd er id ps u1 u2).le (endsCoTr w r c got' held sd er id ps u1 u2) := by
  unfold endsCoTr
  repeat' (first | with_reducible exact T.le_refl _ | with_reducible exact loadTr_le h | with_reducible refine T.le_bind ?_ (fun _ => ?_) | with_reducible refine T.le_cond ?_ ?_)
theorem eachOL0Step_le {c : Cfg} {held : List Int} {sd : Sid} {er : Int} {id : Int} {ps : List Pr} {u2 : List En} {v18 : Sid} {v20 : Int} {st : List En × Int} (h : got.length ≤ got'.length) : (eachOL0Step c got held sd er id ps u2 v18 v20 st).le (eachOL0Step c got' held sd er id ps u2 v18 v20 st) := by
  unfold eachOL0Step
  dsimp only
  repeat' (first | with_reducible exact T.le_refl _ | with_reducible exact endsCoTr_le h | with_reducible exact nextTr_le h | with_reducible refine T.le_bind ?_ (fun _ => ?_) | with_reducible refine T.le_cond ?_ ?_ | with_reducible refine le_selim (fun _ => ?_) (fun _ => ?_))
theorem eachOTr_le {w : Int} {r : Int} {s : Sid} {c : Cfg} {held : List Int} {sd : Sid} {er : Int} {id : Int} {ps : List Pr} {u1 : List En} {u2 : List En} (h : got.length ≤ got'.length) : (eachOTr w r s c got held sd er id ps u1 u2).le (eachOTr w r s c got' held sd er id ps u1 u2) := by
  unfold eachOTr
  repeat' (first | with_reducible exact T.le_refl _ | with_reducible exact T.le_loop (fun x => eachOL0Step_le h) _ _ _ (by omega) | with_reducible exact loadTr_le h | with_reducible refine T.le_bind ?_ (fun _ => ?_))
theorem endsCiTr_le {w : Int} {r : Int} {c : Cfg} {held : List Int} {sd : Sid} {er : Int} {id : Int} {ps : List Pr} {u1 : List En} {u2 : List En} (h : got.length ≤ got'.length) : (endsCiTr w r c got held sd er id ps u1 u2).le (endsCiTr w r c got' held sd er id ps u1 u2) := by
  unfold endsCiTr
  repeat' (first | with_reducible exact T.le_refl _ | with_reducible exact loadTr_le h | with_reducible refine T.le_bind ?_ (fun _ => ?_) | with_reducible refine T.le_cond ?_ ?_)
theorem eachIL0Step_le {c : Cfg} {held : List Int} {sd : Sid} {er : Int} {id : Int} {ps : List Pr} {u1 : List En} {v18 : Sid} {v20 : Int} {st : List En × Int} (h : got.length ≤ got'.length) : (eachIL0Step c got held sd er id ps u1 v18 v20 st).le (eachIL0Step c got' held sd er id ps u1 v18 v20 st) := by
  unfold eachIL0Step
  dsimp only
  repeat' (first | with_reducible exact T.le_refl _ | with_reducible exact endsCiTr_le h | with_reducible exact nextTr_le h | with_reducible refine T.le_bind ?_ (fun _ => ?_) | with_reducible refine T.le_cond ?_ ?_ | with_reducible refine le_selim (fun _ => ?_) (fun _ => ?_))
theorem eachITr_le {w : Int} {r : Int} {s : Sid} {c : Cfg} {held : List Int} {sd : Sid} {er : Int} {id : Int} {ps : List Pr} {u1 : List En} {u2 : List En} (h : got.length ≤ got'.length) : (eachITr w r s c got held sd er id ps u1 u2).le (eachITr w r s c got' held sd er id ps u1 u2) := by
  unfold eachITr
  repeat' (first | with_reducible exact T.le_refl _ | with_reducible exact T.le_loop (fun x => eachIL0Step_le h) _ _ _ (by omega) | with_reducible exact loadTr_le h | with_reducible refine T.le_bind ?_ (fun _ => ?_))
theorem endsTr_le {w : Int} {r : Int} {c : Cfg} {held : List Int} (h : got.length ≤ got'.length) : (endsTr w r c got held).le (endsTr w r c got' held) := by
  unfold endsTr
  repeat' (first | with_reducible exact T.le_refl _ | with_reducible exact eachITr_le h | with_reducible exact eachOTr_le h | with_reducible refine T.le_bind ?_ (fun _ => ?_))
theorem goneC2Tr_le {w : Int} {r : Int} {c : Cfg} {held : List Int} (h : got.length ≤ got'.length) : (goneC2Tr w r c got held).le (goneC2Tr w r c got' held) := by
  unfold goneC2Tr
  repeat' (first | with_reducible exact T.le_refl _ | with_reducible exact nextTr_le h | with_reducible exact loadTr_le h | with_reducible refine T.le_bind ?_ (fun _ => ?_))
theorem goneC3Tr_le {i : Int} {other : Int} {w : Int} {r : Int} {c : Cfg} {held : List Int} {n : Int} (h : got.length ≤ got'.length) : (goneC3Tr i other w r c got held n).le (goneC3Tr i other w r c got' held n) := by
  unfold goneC3Tr
  repeat' (first | with_reducible exact T.le_refl _ | with_reducible exact unlinkTr_le h | with_reducible exact setTr_le h | with_reducible exact retireTr_le h | with_reducible refine T.le_bind ?_ (fun _ => ?_) | with_reducible refine T.le_cond ?_ ?_)
theorem gone1L0Step_le {c : Cfg} {held : List Int} {n : Int} {v11 : Int} {st : Int} (h : got.length ≤ got'.length) : (gone1L0Step c got held n v11 st).le (gone1L0Step c got' held n v11 st) := by
  unfold gone1L0Step
  dsimp only
  repeat' (first | with_reducible exact T.le_refl _ | with_reducible exact goneC3Tr_le h | with_reducible exact goneC2Tr_le h | with_reducible refine T.le_bind ?_ (fun _ => ?_) | with_reducible refine T.le_cond ?_ ?_ | with_reducible refine le_selim (fun _ => ?_) (fun _ => ?_))
theorem gone1Tr_le {w : Int} {r : Int} {s : Sid} {c : Cfg} {held : List Int} {n : Int} (h : got.length ≤ got'.length) : (gone1Tr w r s c got held n).le (gone1Tr w r s c got' held n) := by
  unfold gone1Tr
  repeat' (first | with_reducible exact T.le_refl _ | with_reducible exact T.le_loop (fun x => gone1L0Step_le h) _ _ _ (by omega) | with_reducible exact loadTr_le h | with_reducible refine T.le_bind ?_ (fun _ => ?_))
theorem goneC4Tr_le {w : Int} {r : Int} {c : Cfg} {held : List Int} (h : got.length ≤ got'.length) : (goneC4Tr w r c got held).le (goneC4Tr w r c got' held) := by
  unfold goneC4Tr
  repeat' (first | with_reducible exact T.le_refl _ | with_reducible exact nextTr_le h | with_reducible exact loadTr_le h | with_reducible refine T.le_bind ?_ (fun _ => ?_))
theorem goneC5Tr_le {i : Int} {other : Int} {w : Int} {r : Int} {c : Cfg} {held : List Int} {n : Int} (h : got.length ≤ got'.length) : (goneC5Tr i other w r c got held n).le (goneC5Tr i other w r c got' held n) := by
  unfold goneC5Tr
  repeat' (first | with_reducible exact T.le_refl _ | with_reducible exact unlinkTr_le h | with_reducible exact setTr_le h | with_reducible exact retireTr_le h | with_reducible exact loadTr_le h | with_reducible refine T.le_bind ?_ (fun _ => ?_) | with_reducible refine T.le_cond ?_ ?_)
theorem gone2L0Step_le {c : Cfg} {held : List Int} {n : Int} {v11 : Int} {st : Int} (h : got.length ≤ got'.length) : (gone2L0Step c got held n v11 st).le (gone2L0Step c got' held n v11 st) := by
  unfold gone2L0Step
  dsimp only
  repeat' (first | with_reducible exact T.le_refl _ | with_reducible exact goneC5Tr_le h | with_reducible exact goneC4Tr_le h | with_reducible refine T.le_bind ?_ (fun _ => ?_) | with_reducible refine T.le_cond ?_ ?_ | with_reducible refine le_selim (fun _ => ?_) (fun _ => ?_))
theorem gone2Tr_le {w : Int} {r : Int} {s : Sid} {c : Cfg} {held : List Int} {n : Int} (h : got.length ≤ got'.length) : (gone2Tr w r s c got held n).le (gone2Tr w r s c got' held n) := by
  unfold gone2Tr
  repeat' (first | with_reducible exact T.le_refl _ | with_reducible exact T.le_loop (fun x => gone2L0Step_le h) _ _ _ (by omega) | with_reducible exact loadTr_le h | with_reducible refine T.le_bind ?_ (fun _ => ?_))
theorem setPropTr_le {n : Int} {k : Int} {v : Int} {c : Cfg} {held : List Int} (h : got.length ≤ got'.length) : (setPropTr n k v c got held).le (setPropTr n k v c got' held) := by
  unfold setPropTr
  repeat' (first | with_reducible exact T.le_refl _ | with_reducible exact walkSTr_le h | with_reducible exact latchTr_le h | with_reducible exact knownTr_le h | with_reducible exact findTr_le h | with_reducible exact takeTr_le h | with_reducible exact storeTr_le h | with_reducible exact loadTr_le h | with_reducible refine T.le_bind ?_ (fun _ => ?_) | with_reducible refine T.le_cond ?_ ?_)
theorem delPropTr_le {n : Int} {k : Int} {c : Cfg} {held : List Int} (h : got.length ≤ got'.length) : (delPropTr n k c got held).le (delPropTr n k c got' held) := by
  unfold delPropTr
  repeat' (first | with_reducible exact T.le_refl _ | with_reducible exact walkDTr_le h | with_reducible exact latchTr_le h | with_reducible exact knownTr_le h | with_reducible exact findTr_le h | with_reducible exact loadTr_le h | with_reducible refine T.le_bind ?_ (fun _ => ?_) | with_reducible refine T.le_cond ?_ ?_)
theorem pairsTr_le {w : Int} {r : Int} {c : Cfg} {held : List Int} (h : got.length ≤ got'.length) : (pairsTr w r c got held).le (pairsTr w r c got' held) := by
  unfold pairsTr
  repeat' (first | with_reducible exact T.le_refl _ | with_reducible exact walkPTr_le h | with_reducible exact loadTr_le h | with_reducible refine T.le_bind ?_ (fun _ => ?_))
theorem lookPL0Step_le {v1 : Int} {c : Cfg} {held : List Int} {v9 : Res} {st : Unit} (h : got.length ≤ got'.length) : (lookPL0Step v1 c got held v9 st).le (lookPL0Step v1 c got' held v9 st) := by
  unfold lookPL0Step
  repeat' (first | with_reducible exact T.le_refl _ | with_reducible exact pairsTr_le h | with_reducible exact findTr_le h | with_reducible exact seeTr_le h | with_reducible refine T.le_bind ?_ (fun _ => ?_) | with_reducible refine T.le_cond ?_ ?_ | with_reducible refine le_selim (fun _ => ?_) (fun _ => ?_))
theorem lookPTr_le {n : Int} {c : Cfg} {held : List Int} (h : got.length ≤ got'.length) : (lookPTr n c got held).le (lookPTr n c got' held) := by
  unfold lookPTr
  repeat' (first | with_reducible exact T.le_refl _ | with_reducible exact T.le_loop (fun x => lookPL0Step_le h) _ _ _ (by omega) | with_reducible exact knownTr_le h | with_reducible refine T.le_bind ?_ (fun _ => ?_) | with_reducible refine T.le_cond ?_ ?_)
theorem holdDL0Step_le {v1 : Int} {v2 : List Int} {c : Cfg} {v12 : Int} {v13 : Int} {st : List Int × Int × Int × List Int} (h : got.length ≤ got'.length) : (holdDL0Step v1 v2 c got v12 v13 st).le (holdDL0Step v1 v2 c got' v12 v13 st) := by
  unfold holdDL0Step
  dsimp only
  repeat' (first | with_reducible exact T.le_refl _ | with_reducible exact aroundTr_le h | with_reducible exact latchTr_le h | with_reducible exact findTr_le h | with_reducible refine T.le_bind ?_ (fun _ => ?_) | with_reducible refine T.le_cond ?_ ?_ | with_reducible refine le_selim (fun _ => ?_) (fun _ => ?_))
theorem holdDTr_le {n : Int} {more : List Int} {c : Cfg} {held : List Int} (h : got.length ≤ got'.length) : (holdDTr n more c got held).le (holdDTr n more c got' held) := by
  unfold holdDTr
  repeat' (first | with_reducible exact T.le_refl _ | with_reducible exact T.le_loop (fun x => holdDL0Step_le h) _ _ _ (by omega) | with_reducible exact aroundTr_le h | with_reducible exact findTr_le h | with_reducible refine T.le_bind ?_ (fun _ => ?_) | with_reducible refine T.le_cond ?_ ?_)
theorem fuseC1Tr_le {a : Int} {xw : Int} {xr : Int} {c : Cfg} {held : List Int} (h : got.length ≤ got'.length) : (fuseC1Tr a xw xr c got held).le (fuseC1Tr a xw xr c got' held) := by
  unfold fuseC1Tr
  repeat' (first | with_reducible exact T.le_refl _ | with_reducible exact findTr_le h | with_reducible refine T.le_bind ?_ (fun _ => ?_))
theorem holdFL0Step_le {v1 : Int} {v2 : List Int} {c : Cfg} {a : Int} {v20 : Int} {v21 : Int} {st : List Int × Int × Int × Int × Int × List Int} (h : got.length ≤ got'.length) : (holdFL0Step v1 v2 c got a v20 v21 st).le (holdFL0Step v1 v2 c got' a v20 v21 st) := by
  unfold holdFL0Step
  dsimp only
  repeat' (first | with_reducible exact T.le_refl _ | with_reducible exact fuseC1Tr_le h | with_reducible exact aroundTr_le h | with_reducible exact latchTr_le h | with_reducible exact findTr_le h | with_reducible refine T.le_bind ?_ (fun _ => ?_) | with_reducible refine T.le_cond ?_ ?_ | with_reducible refine le_selim (fun _ => ?_) (fun _ => ?_))
theorem holdFTr_le {n : Int} {more : List Int} {c : Cfg} {held : List Int} {a : Int} {xw : Int} {xr : Int} (h : got.length ≤ got'.length) : (holdFTr n more c got held a xw xr).le (holdFTr n more c got' held a xw xr) := by
  unfold holdFTr
  repeat' (first | with_reducible exact T.le_refl _ | with_reducible exact T.le_loop (fun x => holdFL0Step_le h) _ _ _ (by omega) | with_reducible exact aroundTr_le h | with_reducible exact findTr_le h | with_reducible refine T.le_bind ?_ (fun _ => ?_) | with_reducible refine T.le_cond ?_ ?_ | with_reducible refine le_selim (fun _ => ?_) (fun _ => ?_))
theorem lookNL0Step_le {v1 : Int} {c : Cfg} {held : List Int} {v9 : Res} {st : Unit} (h : got.length ≤ got'.length) : (lookNL0Step v1 c got held v9 st).le (lookNL0Step v1 c got' held v9 st) := by
  unfold lookNL0Step
  repeat' (first | with_reducible exact T.le_refl _ | with_reducible exact endsTr_le h | with_reducible exact findTr_le h | with_reducible exact seeTr_le h | with_reducible refine T.le_bind ?_ (fun _ => ?_) | with_reducible refine T.le_cond ?_ ?_ | with_reducible refine le_selim (fun _ => ?_) (fun _ => ?_))
theorem lookNTr_le {n : Int} {c : Cfg} {held : List Int} (h : got.length ≤ got'.length) : (lookNTr n c got held).le (lookNTr n c got' held) := by
  unfold lookNTr
  repeat' (first | with_reducible exact T.le_refl _ | with_reducible exact T.le_loop (fun x => lookNL0Step_le h) _ _ _ (by omega) | with_reducible exact knownTr_le h | with_reducible refine T.le_bind ?_ (fun _ => ?_) | with_reducible refine T.le_cond ?_ ?_)
theorem dropL0Step_le {c : Cfg} {held : List Int} {v8 : Res} {v10 : Int} {v11 : Int} {v13 : Int} {st : Int} (h : got.length ≤ got'.length) : (dropL0Step c got held v8 v10 v11 v13 st).le (dropL0Step c got' held v8 v10 v11 v13 st) := by
  unfold dropL0Step
  dsimp only
  repeat' (first | with_reducible exact T.le_refl _ | with_reducible exact nextTr_le h | with_reducible exact retireTr_le h | with_reducible refine T.le_bind ?_ (fun _ => ?_) | with_reducible refine T.le_cond ?_ ?_ | with_reducible refine le_selim (fun _ => ?_) (fun _ => ?_))
theorem dropTr_le {n : Int} {c : Cfg} {held : List Int} (h : got.length ≤ got'.length) : (dropTr n c got held).le (dropTr n c got' held) := by
  unfold dropTr
  repeat' (first | with_reducible exact T.le_refl _ | with_reducible exact T.le_loop (fun x => dropL0Step_le h) _ _ _ (by omega) | with_reducible exact holdDTr_le h | with_reducible exact gone2Tr_le h | with_reducible exact gone1Tr_le h | with_reducible exact knownTr_le h | with_reducible exact setTr_le h | with_reducible exact retireTr_le h | with_reducible exact loadTr_le h | with_reducible refine T.le_bind ?_ (fun _ => ?_) | with_reducible refine T.le_cond ?_ ?_)
theorem fuseL2Step_le {v0 : Int} {c : Cfg} {held : List Int} {v12 : Res} {v14 : Int} {v15 : Int} {v17 : Int} {v18 : Int} {v20 : Int} {st : Int} (h : got.length ≤ got'.length) : (fuseL2Step v0 c got held v12 v14 v15 v17 v18 v20 st).le (fuseL2Step v0 c got' held v12 v14 v15 v17 v18 v20 st) := by
  unfold fuseL2Step
  dsimp only
  repeat' (first | with_reducible exact T.le_refl _ | with_reducible exact walkFTr_le h | with_reducible exact nextTr_le h | with_reducible exact retireTr_le h | with_reducible exact storeTr_le h | with_reducible exact loadTr_le h | with_reducible refine T.le_bind ?_ (fun _ => ?_) | with_reducible refine T.le_cond ?_ ?_ | with_reducible refine le_selim (fun _ => ?_) (fun _ => ?_))
theorem fuseL1Step_le {v0 : Int} {v10 : Int} {v11 : Int} {v12 : Int} {v13 : Int} {v14 : Int} {v15 : Int} {v16 : Int} {v17 : Int} {v18 : Int} {c : Cfg} {held : List Int} {v25 : Int} {v26 : Res} {v28 : Int} {v29 : Int} {v31 : Int} {v32 : Int} {v33 : Sid} {v41 : Int} {st : Int × Int × Int × Int × Int} (h : got.length ≤ got'.length) : (fuseL1Step v0 v10 v11 v12 v13 v14 v15 v16 v17 v18 c got held v25 v26 v28 v29 v31 v32 v33 v41 st).le (fuseL1Step v0 v10 v11 v12 v13 v14 v15 v16 v17 v18 c got' held v25 v26 v28 v29 v31 v32 v33 v41 st) := by
  unfold fuseL1Step
  dsimp only
  repeat' (first | with_reducible exact T.le_refl _ | with_reducible exact nextTr_le h | with_reducible exact storeTr_le h | with_reducible refine T.le_bind ?_ (fun _ => ?_) | with_reducible refine T.le_cond ?_ ?_ | with_reducible refine le_selim (fun _ => ?_) (fun _ => ?_))
theorem fuseL0Step_le {v0 : Int} {v6 : Int} {v7 : Int} {v8 : Int} {v9 : Int} {v10 : Int} {v11 : Int} {v12 : Int} {v13 : Int} {c : Cfg} {held : List Int} {v21 : Int} {v22 : Res} {v24 : Int} {v25 : Int} {v27 : Int} {v28 : Int} {st : Int} (h : got.length ≤ got'.length) : (fuseL0Step v0 v6 v7 v8 v9 v10 v11 v12 v13 c got held v21 v22 v24 v25 v27 v28 st).le (fuseL0Step v0 v6 v7 v8 v9 v10 v11 v12 v13 c got' held v21 v22 v24 v25 v27 v28 st) := by
  unfold fuseL0Step
  dsimp only
  repeat' (first | with_reducible exact T.le_refl _ | with_reducible exact T.le_loop (fun x => fuseL1Step_le h) _ _ _ (by omega) | with_reducible exact storeTr_le h | with_reducible exact loadTr_le h | with_reducible refine T.le_bind ?_ (fun _ => ?_) | with_reducible refine T.le_cond ?_ ?_ | with_reducible refine le_selim (fun _ => ?_) (fun _ => ?_))
theorem fuseTr_le {a : Int} {b : Int} {c : Cfg} {held : List Int} (h : got.length ≤ got'.length) : (fuseTr a b c got held).le (fuseTr a b c got' held) := by
  unfold fuseTr
  repeat' (first | with_reducible exact T.le_refl _ | with_reducible exact T.le_loop (fun x => fuseL0Step_le h) _ _ _ (by omega) | with_reducible exact T.le_loop (fun x => fuseL2Step_le h) _ _ _ (by omega) | with_reducible exact holdFTr_le h | with_reducible exact knownTr_le h | with_reducible exact setTr_le h | with_reducible exact retireTr_le h | with_reducible exact loadTr_le h | with_reducible refine T.le_bind ?_ (fun _ => ?_) | with_reducible refine T.le_cond ?_ ?_ | with_reducible refine le_selim (fun _ => ?_) (fun _ => ?_))
theorem programTr_le {o : Opn} {c : Cfg} {held : List Int} (h : got.length ≤ got'.length) : (programTr o c got held).le (programTr o c got' held) := by
  unfold programTr
  repeat' (first | with_reducible exact T.le_refl _ | with_reducible exact fuseTr_le h | with_reducible exact dropTr_le h | with_reducible exact lookNTr_le h | with_reducible exact lookPTr_le h | with_reducible exact delPropTr_le h | with_reducible exact setPropTr_le h | with_reducible exact cutTr_le h | with_reducible exact linkTr_le h | with_reducible exact addTr_le h | with_reducible refine T.le_bind ?_ (fun _ => ?_) | with_reducible refine T.le_cond ?_ ?_)
theorem runTr_le {c : Cfg} {o : Opn} (h : got.length ≤ got'.length) : (runTr c o got).le (runTr c o got') := by
  unfold runTr
  repeat' (first | with_reducible exact T.le_refl _ | with_reducible exact programTr_le h | with_reducible refine T.le_bind ?_ (fun _ => ?_))
end
end Go.Ax.Cd
/- With fewer answers an operation has done the same, up to these. -/
namespace Go.Ax.Cd
set_option linter.unusedVariables false
theorem run_ne_bot {c : Cfg} {o : Opn} {got : List Int} (hN : got.length ≤ 1000) (hx : ∀ x ∈ got, In64 x) (ha : In64 o.a) (hb : In64 o.b) : (runTr c o got).exec got [] ≠ .bot := by
  by_cases hk : o.kind = 6 ∨ o.kind = 7
  · rcases run_exec (c := c) (ro := true) rfl hN hx ha hb (fun h => absurd hk h) with ⟨r, d, b, h, _⟩ | ⟨d, s, h, _⟩ <;> rw [h] <;> simp
  · rcases run_exec (c := c) (ro := false) rfl hN hx ha hb (fun _ => rfl) with ⟨r, d, b, h, _⟩ | ⟨d, s, h, _⟩ <;> rw [h] <;> simp
theorem run_take {c : Cfg} {o : Opn} {got : List Int} (hN : got.length ≤ 1000) (hx : ∀ x ∈ got, In64 x) (ha : In64 o.a) (hb : In64 o.b) {K : Nat} (hK : K ≤ got.length) :
    (∀ r d, (runTr c o got).exec got [] = .ok r d → (runTr c o (got.take K)).exec (got.take K) [] = if d.length ≤ K then .ok r d else .stop (d.take (K + 1))) ∧
    (∀ d, (runTr c o got).exec got [] = .stop d → (runTr c o (got.take K)).exec (got.take K) [] = .stop (d.take (K + 1))) := by
  have hl : (got.take K).length ≤ got.length := by simp; omega
  have h1 := run_ne_bot (c := c) (o := o) (got := got.take K) (by omega) (fun x h => hx x (List.mem_of_mem_take h)) ha hb
  have h2 := T.le_exec (runTr_le (c := c) (o := o) hl) h1
  obtain ⟨h3, h4⟩ := T.exec_take (t := runTr c o got) hK (d := []) (by simp)
  exact ⟨fun r d h => by rw [← h2]; exact h3 r d h, fun d h => by rw [← h2]; exact h4 d h⟩
end Go.Ax.Cd
