/- Merged. -/
import Derived.Test.YteoeolfcpmalfaaGreatDoorQ30
import Derived.Test.YteoeolfcpmalfaaGreatDoorQ16
namespace Go.Ax.Cd
open Go.Proofs
set_option linter.unusedVariables false
set_option maxRecDepth 100000
instance : Bd [] := ⟨by simp⟩
instance {a : Int} : Bd [a] := ⟨by simp⟩
instance {a b : Int} : Bd [a, b] := ⟨by simp⟩
instance {a b c : Int} : Bd [a, b, c] := ⟨by simp⟩
instance {l : List Int} [h : Bd l] : Bd (ordSet l) := ⟨Nat.le_trans (ordSet_len l) h.h⟩
theorem freeB {c : Cfg} {got h : List Int} {ok : Bool} {r : Res} {d : List Acc} [hh : Bd h] {j : Nat} (hj : j < h.length) {z : VhL [vi] × PS} (hz : pAskN (((), Acc.mk 6 (h.reverse.getD j 0) 0 0 0 0, ()), ps c got h ok r d) = some z) :
  pFreeL0E.un (pFreeL0B pAskN) (((), Int.ofNat h.length, (j : Int), ()), ps c got h ok r d) = some (.inl (((), Int.ofNat h.length, ((j + 1 : Nat) : Int), ()), z.2)) := by
 have hl := hh.h
 show pFreeL0B pAskN (Int.ofNat h.length) (j : Int) c got h ok r d = _
 unfold pFreeL0B
 have e1 : w64 (w64 (Int.ofNat h.length - 1) - j) = ((h.length - 1 - j : Nat) : Int) := by
  rw [w64_id (n := Int.ofNat h.length - 1) (by simp; omega) (by simp; omega), w64_id (by simp; omega) (by simp; omega)]
  simp; omega
 rw [decide_eq_true (show (j : Int) < Int.ofNat h.length by simp; omega), e1, inR_ge (by omega), rd_ix, w64_ix (by omega)]
 have e2 : h.getD (h.length - 1 - j) 0 = h.reverse.getD j 0 := by
  rw [List.getD_eq_getElem?_getD, List.getD_eq_getElem?_getD, List.getElem?_reverse (by omega)]
 rw [e2]
 simp only [cond_true]
 rw [hz]
 rfl
theorem freeEd {c : Cfg} {got h : List Int} {ok : Bool} {r : Res} {d : List Acc} : pFreeL0E.un (pFreeL0B pAskN) (((), Int.ofNat h.length, (h.length : Int), ()), ps c got h ok r d) = some (.inr (((), ()), ps c got h ok r d)) := by
 show pFreeL0B pAskN (Int.ofNat h.length) (h.length : Int) c got h ok r d = _
 unfold pFreeL0B
 rw [decide_eq_false (by simp)]
 rfl
theorem dFreeL {c : Cfg} {got h : List Int} {r : Res} {d : List Acc} [hh : Bd h] {m j : Nat} (hj : j ≤ h.length) (hm : h.length - j < m) : loopF (pFreeL0E.un (pFreeL0B pAskN)) m (((), Int.ofNat h.length, (j : Int), ()), ps c got h false r d) = some (((), ()), ps c got h false r d) :=
 loopF_from (st := fun j => (((), Int.ofNat h.length, (j : Int), ()), ps c got h false r d)) (fun i hi => freeB (z := ((0, ()), ps c got h false r d)) hi rfl) freeEd m j hj hm
theorem freeL_sim {c : Cfg} {got h : List Int} [hg : Bd got] [hh : Bd h] {r : Res} : ∀ (l : List Int) (j m : Nat) (d : List Acc), h.reverse.drop j = l → j ≤ h.length → h.length - j < m →
  Sim ((freeT l).exec got d) (loopF (pFreeL0E.un (pFreeL0B pAskN)) m (((), Int.ofNat h.length, (j : Int), ()), ps c got h true r d)) (fun _ d z => z = (((), ()), ps c got h true r d)) (fun d z => z = (((), ()), ps c got h false r d))
 | l, j, 0, d, e, hj, hm => by omega
 | [], j, m + 1, d, e, hj, hm => by
  have : j = h.length := by
   have := congrArg List.length e
   simp at this
   omega
  subst this
  rw [loopF, freeEd]
  exact ⟨_, rfl, rfl⟩
 | x :: l, j, m + 1, d, e, hj, hm => by
  have hl : j < h.length := by
   have := congrArg List.length e
   simp at this
   omega
  have hx : h.reverse.getD j 0 = x := by
   have := congrArg (fun l => l[0]?) e
   simp only [List.getElem?_drop, Nat.add_zero, List.getElem?_cons_zero] at this
   rw [List.getD_eq_getElem?_getD, this]
   rfl
  rw [loopF, freeT]
  have h1 := pAsk_sim (a := Acc.mk 6 x 0 0 0 0) (c := c) (h := h) (r := r) (d := d) hg.h
  rw [show (T.ask (⟨6, x, 0, 0, 0, 0⟩ : Acc) fun _ => freeT l) = (T.ask (Acc.mk 6 x 0 0 0 0) T.ret).bind fun _ => freeT l from rfl, T.exec_bind]
  cases e2 : (T.ask (Acc.mk 6 x 0 0 0 0) T.ret).exec got d with
  | ok a d' =>
   rw [e2] at h1
   obtain ⟨z, hz, rfl⟩ := h1
   rw [freeB hl (by rw [hx]; exact hz)]
   refine freeL_sim l (j + 1) m d' ?_ hl (by omega)
   have := congrArg (List.drop 1) e
   simpa [List.drop_drop] using this
  | stop d' =>
   rw [e2] at h1
   obtain ⟨⟨z, s⟩, hz, _, (rfl : s = _)⟩ := h1
   rw [freeB hl (by rw [hx]; exact hz)]
   exact ⟨_, dFreeL hl (by omega), rfl⟩
  | bot => trivial
theorem pFree_sim {c : Cfg} {got h : List Int} [hg : Bd got] [hh : Bd h] {r : Res} {d : List Acc} : Sim ((freeTr h).exec got d) (pFreeN (((), ()), ps c got h true r d)) (fun _ d z => z = ((), ps c got [] true r d)) (DD c got) := by
 show Sim _ ((pFreeL0N (((), Int.ofNat h.length, 0, ()), ps c got h true r d)).bind fun z => some ((), (z.2.1.1, z.2.1.2.1, (), [], z.2.1.2.2.2.2), z.2.2.1, ())) _ _
 have hl := hh.h
 unfold freeTr
 rw [decide_eq_true hl]
 have h1 := freeL_sim (c := c) (got := got) (h := h) (r := r) h.reverse 0 FU d rfl (by omega) (by unfold FU; omega)
 show Sim ((freeT h.reverse).exec got d) _ _ _
 rw [← T.bind_ret (freeT h.reverse)]
 exact Sim.bind h1 (fun x d z hz => by subst hz; exact Zr rfl) (fun d z hz => by subst hz; exact ⟨_, rfl, [], r, by simp, rfl⟩)
instance : DOk pFreeN := ⟨fun {c got d a s} hs => by
 obtain ⟨h, r, hh, rfl⟩ := hs
 haveI : Bd h := ⟨hh⟩
 show Gets ((pFreeL0N (((), Int.ofNat h.length, 0, ()), ps c got h false r d)).bind fun z => some ((), (z.2.1.1, z.2.1.2.1, (), [], z.2.1.2.2.2.2), z.2.2.1, ())) _
 have h1 : pFreeL0N (((), Int.ofNat h.length, 0, ()), ps c got h false r d) = _ := dFreeL (m := FU) (j := 0) (by omega) (by unfold FU; omega)
 rw [h1]
 exact ⟨_, rfl, [], r, by simp, rfl⟩⟩
instance : DOk pLeaveN := ⟨fun {c got d a s} hs => by
 show Gets (pLeaveB pAskN pFreeN _ _ _ _ _ _ _) _
 unfold pLeaveB
 repeat' (first|(with_reducible first|refine Yd (by assumption) fun z hz =>?_|refine Yv ?_|refine Yg (by (refine decide_eq_true ?_; simp only [List.length_cons, List.length_nil, List.length_append]; omega)) ?_|refine Yc (fun _ =>?_) fun _ =>?_)|(refine Ys ?_; assumption)|(refine Ys ⟨by assumption, ?_⟩; simp; omega))
 obtain ⟨h, r, hh, e⟩ := ‹DD c got _ _›
 exact ⟨_, rfl, h, _, hh, by rw [e]⟩⟩
def finTr (x : Res × List Int) : T Res := (freeTr x.2).bind fun _ => (T.ask ⟨2, 0, 0, 0, 0, 0⟩ T.ret).bind fun _ => .ret x.1
abbrev Ov {R : Type} (c : Cfg) (got : List Int) (v : R) (x : Res) (d : List Acc) (z : R × PS) : Prop := z = (v, ps c got [] true x d)
theorem Ze {c : Cfg} {got h : List Int} [hg : Bd got] [hh : Bd h] {r x : Res} {d : List Acc} : Sim ((finTr (x, h)).exec got d) ((pLeaveN (((), x, ()), ps c got h true r d)).bind fun z => some ((), z.2)) (Ov c got ()) (DD c got) := by
 show Sim _ ((pLeaveB pAskN pFreeN x c got h true r d).bind _) _ _
 unfold pLeaveB finTr
 rw [Option.bind_assoc]
 refine Sim.bind pFree_sim (fun _ d z hz =>?_) (fun d z hz =>?_)
 ·subst hz
  rw [Option.bind_assoc]
  repeat' (first|(with_reducible first|refine Yd (by assumption) fun z hz =>?_|refine Yv ?_|refine Yg (by (refine decide_eq_true ?_; simp only [List.length_cons, List.length_nil, List.length_append]; omega)) ?_|refine Yc (fun _ =>?_) fun _ =>?_|refine Zs (fun x d hd =>?_) fun d z hz =>?_|refine Zv ?_|refine Zc (fun _ =>?_) fun _ =>?_|refine Zt ?_|refine Zu ?_|refine Zn (fun _ =>?_) fun _ =>?_|refine Zo (fun _ =>?_) fun _ =>?_|refine Zg fun _ =>?_|exact Zb)|(refine Zr ?_;first|exact rfl|exact ⟨rfl, rfl⟩|exact ⟨rfl, by simp; omega⟩)|(refine Ys ?_; assumption)|(refine Ys ⟨by assumption, ?_⟩; simp; omega))
  obtain ⟨h, r, hh, e⟩ := ‹DD c got _ _›
  exact ⟨_, rfl, h, _, hh, by rw [e]⟩
 ·rw [Option.bind_assoc]
  repeat' (first|(with_reducible first|refine Yd (by assumption) fun z hz =>?_|refine Yv ?_|refine Yg (by (refine decide_eq_true ?_; simp only [List.length_cons, List.length_nil, List.length_append]; omega)) ?_|refine Yc (fun _ =>?_) fun _ =>?_)|(refine Ys ?_; assumption)|(refine Ys ⟨by assumption, ?_⟩; simp; omega))
  obtain ⟨h, r, hh, e⟩ := ‹DD c got _ _›
  exact ⟨_, rfl, h, _, hh, by rw [e]⟩
theorem latchRd {c : Cfg} {got h l : List Int} {ok : Bool} {r : Res} {d : List Acc} [hl : Bd l] {j : Nat} (hj : j < l.length) :
  pLatchL0E.un (pLatchL0B pAskN) (((), l, Int.ofNat l.length, (j : Int), ()), ps c got h ok r d) = (pAskN (((), Acc.mk 5 (l.getD j 0) 0 0 0 0, ()), ps c got h ok r d)).bind fun z => some (.inl (((), l, Int.ofNat l.length, ((j + 1 : Nat) : Int), ()), z.2)) := by
 have hl := hl.h
 show pLatchL0B pAskN l (Int.ofNat l.length) (j : Int) c got h ok r d = _
 unfold pLatchL0B
 rw [decide_eq_true (show (j : Int) < Int.ofNat l.length by simp; omega), inR_ge (by omega), rd_ix, w64_ix (by omega)]
 rfl
theorem latchEd {c : Cfg} {got h l : List Int} {ok : Bool} {r : Res} {d : List Acc} : pLatchL0E.un (pLatchL0B pAskN) (((), l, Int.ofNat l.length, (l.length : Int), ()), ps c got h ok r d) = some (.inr ((), ps c got h ok r d)) := by
 show pLatchL0B pAskN l (Int.ofNat l.length) (l.length : Int) c got h ok r d = _
 unfold pLatchL0B
 rw [decide_eq_false (by simp)]
 rfl
theorem dLatchL {c : Cfg} {got h l : List Int} {r : Res} {d : List Acc} [hl : Bd l] {m j : Nat} (hj : j ≤ l.length) (hm : l.length - j < m) : loopF (pLatchL0E.un (pLatchL0B pAskN)) m (((), l, Int.ofNat l.length, (j : Int), ()), ps c got h false r d) = some ((), ps c got h false r d) :=
 loopF_from (st := fun j => (((), l, Int.ofNat l.length, (j : Int), ()), ps c got h false r d)) (fun i hi => by rw [latchRd hi]; rfl) latchEd m j hj hm
theorem pLatch_sim {c : Cfg} {got h l : List Int} [hg : Bd got] [hl : Bd l] {r : Res} {d : List Acc} : Sim ((latchTr l c got h).exec got d) (pLatchN (((), l, ()), ps c got h true r d)) (fun x d z => x = ordSet l ∧ z = ((), ps c got (ordSet l) true r d)) (DD c got) := by
 show Sim _ ((pSetN ((l, ()), ())).bind fun z => (pLatchL0N (((), z.1.1, Int.ofNat z.1.1.length, 0, ()), ps c got z.1.1 true r d)).bind fun z => some ((), z.2)) _ _
 have hl' := hl.h
 rw [pSet_eq l (by omega)]
 show Sim _ ((pLatchL0N (((), ordSet l, Int.ofNat (ordSet l).length, 0, ()), ps c got (ordSet l) true r d)).bind fun z => some ((), z.2)) _ _
 have hn : Bd (ordSet l) := inferInstance
 generalize hL : ordSet l = L at *
 unfold latchTr latchF latchB latchL0F
 dsimp only [F.tree]
 unfold T.gret
 rw [hL]
 cases ordG l
 ·trivial
 show Sim (((T.loop (latchL0Step L (Int.ofNat L.length) c got L) (got.length + 10) 0).bind fun _ => .ret L).exec got d) _ _ _
 refine Sim.bind (y := pLatchL0N (((), L, Int.ofNat L.length, 0, ()), ps c got L true r d)) (L := fun _ d z => z = ((), ps c got L true r d)) (D := fun d z => z = ((), ps c got L false r d)) ?_ (fun _ d z hz => by subst hz; exact Zr ⟨rfl, rfl⟩) (fun d z hz => by subst hz; exact ⟨_, rfl, L, r, hn.h, rfl⟩)
 refine Sim.loopU (L.length + 1) (R := fun i d z => ∃ j : Nat, i = (j : Int) ∧ j ≤ L.length ∧ z = (((), L, Int.ofNat L.length, (j : Int), ()), ps c got L true r d)) (E := fun d z => ∃ j : Nat, j ≤ L.length ∧ z = (((), L, Int.ofNat L.length, (j : Int), ()), ps c got L false r d)) (by have := hg.h; have := hn.h; unfold FU; omega) (fun i d z hz =>?_) (fun d z hz =>?_) ⟨0, rfl, by omega, rfl⟩
 ·obtain ⟨j, rfl, hj, rfl⟩ := hz
  have := hn.h
  unfold latchL0Step latchL0B
  dsimp only [F.tree, doT, frT]
  rcases Nat.lt_or_ge j L.length with h1 | h1
  ·rw [latchRd h1, decide_eq_true (show (j : Int) < Int.ofNat L.length by simp; omega), inR_ge h1, rd_ix, w64_ix (by omega)]
   exact Sim.bind (pAsk_sim hg.h) (fun x d z hz => by subst hz; exact Zr ⟨j + 1, rfl, h1, rfl⟩) (fun d z hz => Ys ⟨j + 1, h1, by rw [hz.2]⟩)
  ·obtain rfl : j = L.length := by omega
   rw [latchEd, decide_eq_false (by simp)]
   exact Zr rfl
 ·obtain ⟨j, hj, rfl⟩ := hz
  exact ⟨_, dLatchL hj (by omega), rfl⟩
theorem Zl {α Y : Type} {c : Cfg} {got h l : List Int} [hg : Bd got] [hl : Bd l] {r : Res} {d : List Acc} {k : List Int → T α} {F : VhL [] × PS → Option Y} {L : α → List Acc → Y → Prop} {D : List Acc → Y → Prop}
  (hk : ∀ d, Sim ((k (ordSet l)).exec got d) (F ((), ps c got (ordSet l) true r d)) L D) (hd : ∀ d z, DD c got d z → Gets (F z) (D d)) : Sim (((latchTr l c got h).bind k).exec got d) ((pLatchN (((), l, ()), ps c got h true r d)).bind F) L D :=
 Sim.bind pLatch_sim (fun x d z hz => by obtain ⟨rfl, rfl⟩ := hz; exact hk d) hd
theorem dLatch {c : Cfg} {got l : List Int} [hl : Bd l] {d : List Acc} {s : PS} (hs : Dead c got d s) : Gets (pLatchN (((), l, ()), s)) (DD c got d) := by
 obtain ⟨h, r, hh, rfl⟩ := hs
 show Gets ((pSetN ((l, ()), ())).bind fun z => (pLatchL0N (((), z.1.1, Int.ofNat z.1.1.length, 0, ()), ps c got z.1.1 false r d)).bind fun z => some ((), z.2)) _
 have hl' := hl.h
 rw [pSet_eq l (by omega)]
 have h1 : pLatchL0N (((), ordSet l, Int.ofNat (ordSet l).length, 0, ()), ps c got (ordSet l) false r d) = _ := dLatchL (m := FU) (j := 0) (by omega) (by have := ordSet_len l; unfold FU; omega)
 show Gets ((pLatchL0N (((), ordSet l, Int.ofNat (ordSet l).length, 0, ()), ps c got (ordSet l) false r d)).bind fun z => some ((), z.2)) _
 rw [h1]
 exact ⟨_, rfl, ordSet l, r, Nat.le_trans (ordSet_len l) hl', rfl⟩
theorem Yl {c : Cfg} {got l : List Int} [hl : Bd l] {d : List Acc} {s : PS} {Y : Type} {F : VhL [] × PS → Option Y} {D : Y → Prop} (hs : Dead c got d s) (hF : ∀ z, DD c got d z → Gets (F z) D) : Gets ((pLatchN (((), l, ()), s)).bind F) D := Gets.bind (dLatch hs) hF
set_option linter.unusedSimpArgs false
set_option linter.unusedSectionVars false
set_option maxHeartbeats 4000000
theorem Zo {α Y : Type} {got : List Int} {d : List Acc} {b : Bool} {t u : T α} {x y : Option Y} {L : α → List Acc → Y → Prop} {D : List Acc → Y → Prop} (hx : b = true → Sim (t.exec got d) y L D) (hy : b = false → Sim (u.exec got d) x L D) : Sim ((bif b then t else u).exec got d) (bif !b then x else y) L D := by
 cases b
 ·exact hy rfl
 ·exact hx rfl
theorem xT {α β : Type} {a : α} {k : α → T β} : (T.ret a).bind k = k a := rfl
theorem xO {α β : Type} {k : α → T β} : (T.bot : T α).bind k = .bot := rfl
theorem zB {Y Z : Type} {F : Y → Option Z} : (none : Option Y).bind F = none := rfl
theorem xS {α β γ δ : Type} {b : α ⊕ β} {f : α → T γ} {g : β → T γ} {k : γ → T δ} : (selim b f g).bind k = selim b (fun x => (f x).bind k) (fun y => (g y).bind k) := by cases b <;> rfl
theorem yI {α β γ : Type} {a : α} {f : α → γ} {g : β → γ} : selim (Sum.inl a) f g = f a := rfl
theorem yR {α β γ : Type} {b : β} {f : α → γ} {g : β → γ} : selim (Sum.inr b) f g = g b := rfl
theorem yB {Y Z : Type} {b : Bool} {x y : Option Y} {F : Y → Option Z} : (bif b then x else y).bind F = bif b then x.bind F else y.bind F := by cases b <;> rfl
def stepK {σ β α : Type} (K : β → T α) : σ ⊕ β → T (σ ⊕ α)
 | .inl s => .ret (.inl s)
 | .inr b => (K b).bind fun a => .ret (.inr a)
def stepF {X Y Z : Type} (F : Y → Option Z) : X ⊕ Y → Option (X ⊕ Z)
 | .inl x => some (.inl x)
 | .inr y => (F y).bind fun z => some (.inr z)
theorem zI {σ β α : Type} {K : β → T α} {s : σ} : stepK K (.inl s) = .ret (.inl s) := rfl
theorem zR {σ β α : Type} {K : β → T α} {b : β} : stepK (σ := σ) K (.inr b) = (K b).bind fun a => .ret (.inr a) := rfl
theorem xI {X Y Z : Type} {F : Y → Option Z} {x : X} : stepF F (.inl x) = some (.inl x) := rfl
theorem xR {X Y Z : Type} {F : Y → Option Z} {y : Y} : stepF (X := X) F (.inr y) = (F y).bind fun z => some (.inr z) := rfl
theorem T.loop_bind {σ β α : Type} {step : σ → T (σ ⊕ β)} {K : β → T α} : ∀ (k : Nat) (s : σ), (T.loop step k s).bind K = T.loop (fun s => (step s).bind (stepK K)) k s
 | 0, s => rfl
 | k + 1, s => by
  simp only [T.loop, xA]
  congr 1
  funext x
  cases x with
  | inl s' => exact T.loop_bind k s'
  | inr b =>
   simp only [zR, xA, xT]
   exact (T.bind_ret _).symm
theorem loopF_bind {X Y Z : Type} {B : X → Option (X ⊕ Y)} {F : Y → Option Z} : ∀ (n : Nat) (x : X), (loopF B n x).bind F = loopF (fun x => (B x).bind (stepF F)) n x
 | 0, x => rfl
 | n + 1, x => by
  simp only [loopF]
  cases B x with
  | none => rfl
  | some z => cases z with
   | inl x' => exact loopF_bind n x'
   | inr y =>
    simp only [Option.bind_some, xR]
    cases F y <;> rfl
theorem Sim.loopK {σ β α X Y Z : Type} {got : List Int} {step : σ → T (σ ⊕ β)} {B : X → Option (X ⊕ Y)} {K : β → T α} {F : Y → Option Z} {L : α → List Acc → Z → Prop} {D : List Acc → Z → Prop} (R : σ → List Acc → X → Prop) (E : List Acc → X → Prop) (n : Nat) {k : Nat} {s : σ} {d : List Acc} {x : X}
  (hk : k + n ≤ FU) (h : R s d x) (he : ∀ d x, E d x → Gets ((loopF B n x).bind F) (D d)) (hr : ∀ s d x, R s d x → Sim (((step s).bind (stepK K)).exec got d) ((B x).bind (stepF F)) (outS R L) (deadS E D)) : Sim (((T.loop step k s).bind K).exec got d) ((loopF B FU x).bind F) L D := by
 rw [T.loop_bind, loopF_bind]
 exact Sim.loopU n hk hr (fun d x hx => by rw [← loopF_bind]; exact he d x hx) h
theorem Zk {α Y : Type} {c : Cfg} {got h : List Int} [hg : Bd got] [hh : Bd h] {r x : Res} {d : List Acc} {k : Res → T α} {F : VhL [] × PS → Option Y} {L : α → List Acc → Y → Prop} {D : List Acc → Y → Prop}
  (hk : ∀ d, Sim ((k x).exec got d) (F ((), ps c got [] true x d)) L D) (hd : ∀ d z, DD c got d z → Gets (F z) (D d)) : Sim (((finTr (x, h)).bind k).exec got d) ((pLeaveN (((), x, ()), ps c got h true r d)).bind F) L D := by
 have h1 : Sim ((finTr (x, h)).exec got d) (pLeaveN (((), x, ()), ps c got h true r d)) (fun a d z => a = x ∧ z = ((), ps c got [] true x d)) (DD c got) := by
  show Sim _ (pLeaveB pAskN pFreeN x c got h true r d) _ _
  unfold pLeaveB finTr
  refine Sim.bind pFree_sim (fun _ d z hz =>?_) (fun d z hz =>?_)
  ·subst hz
   refine Zs (fun _ d _ => Zr ⟨rfl, rfl⟩) (fun d z hz =>?_)
   obtain ⟨h, r, hh, e⟩ := hz
   exact ⟨_, rfl, h, _, hh, by rw [e]⟩
  ·refine Yd hz fun z hz =>?_
   obtain ⟨h, r, hh, e⟩ := hz
   exact ⟨_, rfl, h, _, hh, by rw [e]⟩
 exact Sim.bind h1 (fun a d z hz => by obtain ⟨rfl, rfl⟩ := hz; exact hk d) hd
theorem loopF_one {X Y : Type} {B : X → Option (X ⊕ Y)} {x : X} {y : Y} {m : Nat} (hm : 0 < m) (h : B x = some (.inr y)) : loopF B m x = some y := loopF_le (m := 1) hm (by simp [loopF, h])
theorem FU0 : 0 < FU := by unfold FU; omega
section
variable {c : Cfg} {got h : List Int} [hg : Bd got] [hh : Bd h] {r : Res} {d : List Acc}
abbrev kn (c : Cfg) (a : Int) : Bool := decide (a ≥ 1) && decide (a ≤ c.ids)
omit hg hh in
theorem known1 {a : Int} : F.tree (α := Bool) (knownF [a] c got h) = .ret (kn c a) := by
 have e1 : w64 (Int.ofNat ([a] : List Int).length - 1) = 0 := by rw [w64_id] <;> simp
 unfold knownF knownB
 dsimp only [F.tree, doT, frT]
 rw [e1]
 by_cases h : a ≥ 1
 ·simp [inR, rdE, rd, h]
 ·simp [inR, rdE, rd, h]
omit hg hh in
theorem known2 {a b : Int} : F.tree (α := Bool) (knownF [a, b] c got h) = bif !kn c a then .ret false else .ret (kn c b) := by
 have e1 : w64 (Int.ofNat ([a, b] : List Int).length - 1) = 1 := by rw [w64_id] <;> simp
 unfold knownF knownB
 dsimp only [F.tree, doT, frT]
 rw [e1]
 show (bif decide (min a b ≥ 1) then T.ret (decide (max a b ≤ c.ids)) else .ret false) = _
 by_cases h1 : a ≥ 1 <;> by_cases h2 : b ≥ 1 <;> by_cases h3 : a ≤ c.ids <;> by_cases h4 : b ≤ c.ids <;> simp [kn, h1, h2, h3, h4, show min a b ≥ 1 ↔ (a ≥ 1 ∧ b ≥ 1) by omega, show max a b ≤ c.ids ↔ (a ≤ c.ids ∧ b ≤ c.ids) by omega]
end
section
variable {c : Cfg} {got h : List Int} [hg : Bd got] [hh : Bd h] {r : Res} {d : List Acc}
theorem pAdd_sim : Sim (((addTr c got h).bind finTr).exec got d) (pAddN (((), ()), ps c got h true r d)) (Ov c got ()) (DD c got) := by
 show Sim _ (pAddB pFailedN pDirN pLoadN pStoreN pPutN pTakeN pLatchN pLeaveN c got h true r d) _ _
 unfold pAddB addTr addF addB
 simp only [F.tree, doT, frT, xA, xC, xT, xO, xS, yI, yR, zI, zR, xI, xR, yB, bne, cond_true, cond_false, Bool.not_true, Bool.not_false, Option.bind_assoc, Option.bind_some, zB]
 repeat' (first|(with_reducible first|refine Yd (by assumption) fun z hz =>?_|refine Yv ?_|refine Yg (by (refine decide_eq_true ?_; simp only [List.length_cons, List.length_nil, List.length_append]; omega)) ?_|refine Yc (fun _ =>?_) fun _ =>?_|refine Zs (fun x d hd =>?_) fun d z hz =>?_|refine Zv ?_|refine Zc (fun _ =>?_) fun _ =>?_|refine Zl (fun d =>?_) fun d z hz =>?_|exact Ze|refine Zk (fun d =>?_) fun d z hz =>?_|refine Zf (fun d =>?_) fun d z hz =>?_|refine Za (by assumption) (fun l d hl =>?_) (fun d z hz hl =>?_)|refine Zq (pWi _ _ (by simp; omega) (by simp; omega)) ?_|refine Zw ?_|refine Zq (pSp _ (by omega)) ?_|refine Zq (pSe _ (by omega)) ?_|refine Zt ?_|refine Zu ?_|refine Zn (fun _ =>?_) fun _ =>?_|refine Zo (fun _ =>?_) fun _ =>?_|refine Zg fun _ =>?_|exact Zb|refine Yl (by assumption) fun z hz =>?_|refine Ya (by assumption) fun z hz hl =>?_|refine Yq (pWi _ _ (by simp; omega) (Nat.le_trans (Dead.held (by assumption)) (by decide))) ?_|refine Yw (by assumption) ?_|refine Yq (pSp _ (by first | assumption | omega | simp)) ?_|refine Yq (pSe _ (by first | assumption | omega | simp)) ?_)|(refine Zr ?_;first|exact rfl|exact ⟨rfl, rfl⟩|exact ⟨rfl, by simp; omega⟩)|(refine Ys ?_; assumption)|(refine Ys ⟨by assumption, ?_⟩; simp; omega))
theorem pLink_sim {o : Opn} : Sim (((linkTr o.a o.b c got h).bind finTr).exec got d) (pLinkN (((), o, ()), ps c got h true r d)) (Ov c got ()) (DD c got) := by
 show Sim _ (pLinkB pFailedN pDirN pLoadN pStoreN pFieldN pPutN pTakeN pEdgeN pKnownN pLatchN pLeaveN o c got h true r d) _ _
 unfold pLinkB linkTr linkF linkB
 dsimp only [F.tree, doT, frT]
 rw [known2]
 simp only [F.tree, doT, frT, xA, xC, xT, xO, xS, yI, yR, zI, zR, xI, xR, yB, bne, cond_true, cond_false, Bool.not_true, Bool.not_false, Option.bind_assoc, Option.bind_some, zB]
 repeat' (first|(with_reducible first|refine Yd (by assumption) fun z hz =>?_|refine Yv ?_|refine Yg (by (refine decide_eq_true ?_; simp only [List.length_cons, List.length_nil, List.length_append]; omega)) ?_|refine Yc (fun _ =>?_) fun _ =>?_|refine Zs (fun x d hd =>?_) fun d z hz =>?_|refine Zv ?_|refine Zc (fun _ =>?_) fun _ =>?_|refine Zl (fun d =>?_) fun d z hz =>?_|exact Ze|refine Zk (fun d =>?_) fun d z hz =>?_|refine Zf (fun d =>?_) fun d z hz =>?_|refine Za (by assumption) (fun l d hl =>?_) (fun d z hz hl =>?_)|refine Zq (pWi _ _ (by simp; omega) (by simp; omega)) ?_|refine Zw ?_|refine Zq (pSp _ (by omega)) ?_|refine Zq (pSe _ (by omega)) ?_|refine Zt ?_|refine Zu ?_|refine Zn (fun _ =>?_) fun _ =>?_|refine Zo (fun _ =>?_) fun _ =>?_|refine Zg fun _ =>?_|exact Zb|refine Yl (by assumption) fun z hz =>?_|refine Ya (by assumption) fun z hz hl =>?_|refine Yq (pWi _ _ (by simp; omega) (Nat.le_trans (Dead.held (by assumption)) (by decide))) ?_|refine Yw (by assumption) ?_|refine Yq (pSp _ (by first | assumption | omega | simp)) ?_|refine Yq (pSe _ (by first | assumption | omega | simp)) ?_)|(refine Zr ?_;first|exact rfl|exact ⟨rfl, rfl⟩|exact ⟨rfl, by simp; omega⟩)|(refine Ys ?_; assumption)|(refine Ys ⟨by assumption, ?_⟩; simp; omega))
end
noncomputable abbrev pSortPrL1E : Le := ⟨0, Tryz.f67, 1, [3, 5, 6, 7, 8, 9], [.s (.own 0), .s (.ptr 1 0), vi, .s (.e (.sl (.st .pr))), vi, vi], [.arr (.st .pr), .box [.e (.st .pr)]], (Fin.one 0 Tryz.f67.ntmps (.exit 2) [3, 5, 6, 7, 8, 9] [.s (.own 0), .s (.ptr 1 0), vi, .s (.e (.sl (.st .pr))), vi, vi] [.arr (.st .pr), .box [.e (.st .pr)]])⟩
noncomputable def pSortPrL1B (v2 : Int) (v3 : List Pr) (v4 v5 : Int) (v6 : List Pr) (v7 : Pr) : Option (pSortPrL1E.X ⊕ pSortPrL1E.fin.Y) := bif decide (v2 > 0) then bif inR (w64 (v2 - 1)) v6.length then bif decide ((rdE (EK.st SN.pr) v6 (w64 (v2 - 1))).k > v7.k) then some (Sum.inl (((), (), w64 (v2 - 1), v3, v4, v5, ()), v6, (v7, ()), ())) else some (Sum.inr (((), (), v2, v3, v4, v5, ()), v6, (v7, ()), ())) else none else some (Sum.inr (((), (), v2, v3, v4, v5, ()), v6, (v7, ()), ()))
noncomputable def pSortPrL1N : pSortPrL1E.T := pSortPrL1E.lp (pSortPrL1E.un pSortPrL1B)
theorem pSortPrL1_raw (x) : pSortPrL1E.run [] [] [(1, [(3, none, (.st .pr))])] x = pSortPrL1E.un pSortPrL1B x := by kernel_rfl
theorem pSortPrL1_ok : pSortPrL1E.Ok pSortPrL1N := Le.k f1 g0 (noloopN (by kernel_rfl)) pSortPrL1_raw
noncomputable abbrev pSortPrL0E : Le := ⟨0, Tryz.f67, 0, [3, 7, 8, 9], [.s (.own 0), .s (.e (.sl (.st .pr))), vi, vi], [.arr (.st .pr)], (Fin.one 0 Tryz.f67.ntmps (.exit 0) [3] [.s (.own 0)] [.arr (.st .pr)])⟩
noncomputable def pSortPrL0B (p0 : pSortPrL1E.T) (v1 : List Pr) (v2 v3 : Int) (v4 : List Pr) : Option (pSortPrL0E.X ⊕ pSortPrL0E.fin.Y) := bif decide (v3 < v2) then bif inR v3 v1.length then (p0 (((), (), Int.ofNat v4.length, v1, v2, v3, ()), v4, (rdE (EK.st SN.pr) v1 v3, ()), ())).bind fun z => bif decide (0 ≤ z.1.2.2.1) && decide (z.1.2.2.1 ≤ Int.ofNat (List.length z.2.1)) then bif decide (0 ≤ z.1.2.2.1) && decide (z.1.2.2.1 ≤ Int.ofNat (List.length z.2.1)) then bif decide ((List.take (Int.toNat z.1.2.2.1) z.2.1).length ≤ 1000000000) then bif decide ((List.take (Int.toNat z.1.2.2.1) z.2.1).length + [z.2.2.1.1].length ≤ 1000000000) then bif decide ((List.take (Int.toNat z.1.2.2.1) z.2.1 ++ [z.2.2.1.1]).length + (List.drop (Int.toNat z.1.2.2.1) (List.take (Int.ofNat (List.length z.2.1)).toNat z.2.1)).length ≤ 1000000000) then some (Sum.inl (((), z.1.2.2.2.1, z.1.2.2.2.2.1, w64 (z.1.2.2.2.2.2.1 + 1), ()), List.take (Int.toNat z.1.2.2.1) z.2.1 ++ [z.2.2.1.1] ++ List.drop (Int.toNat z.1.2.2.1) (List.take (Int.ofNat (List.length z.2.1)).toNat z.2.1), ())) else none else none else none else none else none else none else some (Sum.inr (((), ()), v4, ()))
noncomputable def pSortPrL0N : pSortPrL0E.T := pSortPrL0E.lp (pSortPrL0E.un (pSortPrL0B pSortPrL1N))
theorem pSortPrL0_raw (p0 : pSortPrL1E.T) (x) : pSortPrL0E.run [] [(6, pSortPrL1E.on p0)] [(1, [(3, none, (.st .pr))])] x = pSortPrL0E.un (pSortPrL0B p0) x := by kernel_rfl
theorem pSortPrL0_ok : pSortPrL0E.Ok pSortPrL0N := Le.k f1 g0 (lcok (by kernel_rfl) (lsc (by kernel_rfl) pSortPrL1_ok rfl lsn)) (pSortPrL0_raw pSortPrL1N)
noncomputable abbrev pSortPrE : Fe := ⟨67, Tryz.f67, [.s (.e (.sl (.st .pr)))], [], [.s (.e (.sl (.st .pr)))], []⟩
noncomputable def pSortPrB (p0 : pSortPrL1E.T) (p1 : pSortPrL0E.T) (l : List Pr) : Option pSortPrE.Y := (p1 (((), l, Int.ofNat l.length, 0, ()), [], ())).bind fun z => some ((z.2.1, ()), ())
noncomputable def pSortPrN : pSortPrE.T := pSortPrE.un (pSortPrB pSortPrL1N pSortPrL0N)
theorem pSortPr_raw (p0 : pSortPrL1E.T) (p1 : pSortPrL0E.T) (x) : pSortPrE.run [] [(6, pSortPrL1E.on p0), (3, pSortPrL0E.on p1)] [(1, [(3, none, (.st .pr))])] x = pSortPrE.un (pSortPrB p0 p1) x := by kernel_rfl
theorem pSortPr_ok : pSortPrE.Ok pSortPrN := Fe.k (by kernel_rfl) g0 (lcok (by kernel_rfl) (lsc (by kernel_rfl) pSortPrL0_ok rfl (lsc (by kernel_rfl) pSortPrL1_ok rfl lsn))) (pSortPr_raw pSortPrL1N pSortPrL0N)
noncomputable abbrev pSortEnL1E : Le := ⟨0, Tryz.f68, 1, [3, 5, 6, 7, 8, 9], [.s (.own 0), .s (.ptr 1 0), vi, .s (.e (.sl (.st .en))), vi, vi], [.arr (.st .en), .box [.e (.st .en)]], (Fin.one 0 Tryz.f68.ntmps (.exit 2) [3, 5, 6, 7, 8, 9] [.s (.own 0), .s (.ptr 1 0), vi, .s (.e (.sl (.st .en))), vi, vi] [.arr (.st .en), .box [.e (.st .en)]])⟩
noncomputable def pSortEnL1B (v2 : Int) (v3 : List En) (v4 v5 : Int) (v6 : List En) (v7 : En) : Option (pSortEnL1E.X ⊕ pSortEnL1E.fin.Y) := bif decide (v2 > 0) then bif inR (w64 (v2 - 1)) v6.length then bif decide ((rdE (EK.st SN.en) v6 (w64 (v2 - 1))).edge > v7.edge) then some (Sum.inl (((), (), w64 (v2 - 1), v3, v4, v5, ()), v6, (v7, ()), ())) else some (Sum.inr (((), (), v2, v3, v4, v5, ()), v6, (v7, ()), ())) else none else some (Sum.inr (((), (), v2, v3, v4, v5, ()), v6, (v7, ()), ()))
noncomputable def pSortEnL1N : pSortEnL1E.T := pSortEnL1E.lp (pSortEnL1E.un pSortEnL1B)
theorem pSortEnL1_raw (x) : pSortEnL1E.run [] [] [(1, [(3, none, (.st .en))])] x = pSortEnL1E.un pSortEnL1B x := by kernel_rfl
theorem pSortEnL1_ok : pSortEnL1E.Ok pSortEnL1N := Le.k f1 g0 (noloopN (by kernel_rfl)) pSortEnL1_raw
noncomputable abbrev pSortEnL0E : Le := ⟨0, Tryz.f68, 0, [3, 7, 8, 9], [.s (.own 0), .s (.e (.sl (.st .en))), vi, vi], [.arr (.st .en)], (Fin.one 0 Tryz.f68.ntmps (.exit 0) [3] [.s (.own 0)] [.arr (.st .en)])⟩
noncomputable def pSortEnL0B (p0 : pSortEnL1E.T) (v1 : List En) (v2 v3 : Int) (v4 : List En) : Option (pSortEnL0E.X ⊕ pSortEnL0E.fin.Y) := bif decide (v3 < v2) then bif inR v3 v1.length then (p0 (((), (), Int.ofNat v4.length, v1, v2, v3, ()), v4, (rdE (EK.st SN.en) v1 v3, ()), ())).bind fun z => bif decide (0 ≤ z.1.2.2.1) && decide (z.1.2.2.1 ≤ Int.ofNat (List.length z.2.1)) then bif decide (0 ≤ z.1.2.2.1) && decide (z.1.2.2.1 ≤ Int.ofNat (List.length z.2.1)) then bif decide ((List.take (Int.toNat z.1.2.2.1) z.2.1).length ≤ 1000000000) then bif decide ((List.take (Int.toNat z.1.2.2.1) z.2.1).length + [z.2.2.1.1].length ≤ 1000000000) then bif decide ((List.take (Int.toNat z.1.2.2.1) z.2.1 ++ [z.2.2.1.1]).length + (List.drop (Int.toNat z.1.2.2.1) (List.take (Int.ofNat (List.length z.2.1)).toNat z.2.1)).length ≤ 1000000000) then some (Sum.inl (((), z.1.2.2.2.1, z.1.2.2.2.2.1, w64 (z.1.2.2.2.2.2.1 + 1), ()), List.take (Int.toNat z.1.2.2.1) z.2.1 ++ [z.2.2.1.1] ++ List.drop (Int.toNat z.1.2.2.1) (List.take (Int.ofNat (List.length z.2.1)).toNat z.2.1), ())) else none else none else none else none else none else none else some (Sum.inr (((), ()), v4, ()))
noncomputable def pSortEnL0N : pSortEnL0E.T := pSortEnL0E.lp (pSortEnL0E.un (pSortEnL0B pSortEnL1N))
theorem pSortEnL0_raw (p0 : pSortEnL1E.T) (x) : pSortEnL0E.run [] [(6, pSortEnL1E.on p0)] [(1, [(3, none, (.st .en))])] x = pSortEnL0E.un (pSortEnL0B p0) x := by kernel_rfl
theorem pSortEnL0_ok : pSortEnL0E.Ok pSortEnL0N := Le.k f1 g0 (lcok (by kernel_rfl) (lsc (by kernel_rfl) pSortEnL1_ok rfl lsn)) (pSortEnL0_raw pSortEnL1N)
noncomputable abbrev pSortEnE : Fe := ⟨68, Tryz.f68, [.s (.e (.sl (.st .en)))], [], [.s (.e (.sl (.st .en)))], []⟩
noncomputable def pSortEnB (p0 : pSortEnL1E.T) (p1 : pSortEnL0E.T) (l : List En) : Option pSortEnE.Y := (p1 (((), l, Int.ofNat l.length, 0, ()), [], ())).bind fun z => some ((z.2.1, ()), ())
noncomputable def pSortEnN : pSortEnE.T := pSortEnE.un (pSortEnB pSortEnL1N pSortEnL0N)
theorem pSortEn_raw (p0 : pSortEnL1E.T) (p1 : pSortEnL0E.T) (x) : pSortEnE.run [] [(6, pSortEnL1E.on p0), (3, pSortEnL0E.on p1)] [(1, [(3, none, (.st .en))])] x = pSortEnE.un (pSortEnB p0 p1) x := by kernel_rfl
theorem pSortEn_ok : pSortEnE.Ok pSortEnN := Fe.k (by kernel_rfl) g0 (lcok (by kernel_rfl) (lsc (by kernel_rfl) pSortEnL0_ok rfl (lsc (by kernel_rfl) pSortEnL1_ok rfl lsn))) (pSortEn_raw pSortEnL1N pSortEnL0N)
noncomputable abbrev pSetPL0E : Le := ⟨2, Tryz.f33, 0, [0, 3, 4, 5, 6], [pm, .s (.ptr 2 0), vi, vi, vi], PO2, ((Fin.one 2 Tryz.f33.ntmps (.exit 0) [0, 3, 4, 5] [pm, .s (.ptr 2 0), vi, vi] PO2).or (Fin.one 2 Tryz.f33.ntmps .ret [] [] PO))⟩
noncomputable def pSetPL0B (p0 : pFieldE.T) (p1 : pPutE.T) (p2 : pLeaveE.T) (v2 v3 v4 : Int) (c : Cfg) (got held : List Int) (ok : Bool) (r : Res) (dd : List Acc) (v12 : Opn) : Option (pSetPL0E.X ⊕ pSetPL0E.fin.Y) := bif v4 != 0 then bif ok then (p0 (((), 3, v4, 0, ()), ps c got held ok r dd)).bind fun z => bif z.1.1 == v12.k then (p1 (((), 3, v4, 1, v12.v, ()), z.2.1, z.2.2.1, ())).bind fun z => (p2 (((), Res.mk 0 0 [] [] [], ()), z.2.1, z.2.2.1, ())).bind fun z => some (Sum.inr (Sum.inr ((), z.2.1, z.2.2.1, ()))) else (p0 (((), 3, v4, 2, ()), z.2.1, z.2.2.1, ())).bind fun z => some (Sum.inl (((), (), v2, v3, z.1.1, ()), z.2.1, z.2.2.1, (v12, ()), ())) else some (Sum.inr (Sum.inl (((), (), v2, v3, ()), (c, got, (), held, ok, r, ()), dd, (v12, ()), ()))) else some (Sum.inr (Sum.inl (((), (), v2, v3, ()), (c, got, (), held, ok, r, ()), dd, (v12, ()), ())))
noncomputable def pSetPL0N : pSetPL0E.T := pSetPL0E.lp (pSetPL0E.un (pSetPL0B pFieldN pPutN pLeaveN))
theorem pSetPL0_raw (p0 : pFieldE.T) (p1 : pPutE.T) (p2 : pLeaveE.T) (x) : pSetPL0E.run [pFieldE.on p0, pPutE.on p1, pLeaveE.on p2] [] [] x = pSetPL0E.un (pSetPL0B p0 p1 p2) x := by kernel_rfl
theorem pSetPL0_ok : pSetPL0E.Ok pSetPL0N := Le.k (fo f1 f1) (pField_ok.k (pPut_ok.k (pLeave_ok.k g0))) (noloopN (by kernel_rfl)) (pSetPL0_raw pFieldN pPutN pLeaveN)
noncomputable abbrev pSetPE : Fe := ⟨33, Tryz.f33, [pm, .s (.e (.st .opn))], PO, [], PO⟩
noncomputable def pSetPB (p0 : pFailedE.T) (p1 : pDirE.T) (p2 : pLoadE.T) (p3 : pFieldE.T) (p4 : pPutE.T) (p5 : pTakeE.T) (p6 : pKnownE.T) (p7 : pLatchE.T) (p8 : pLeaveE.T) (p9 : pSetPL0E.T) (o : Opn) (c : Cfg) (got held : List Int) (ok : Bool) (r : Res) (dd : List Acc) : Option pSetPE.Y := (p6 (((), o.a, ()), ps c got held ok r dd)).bind fun z => bif !z.1.1 then (p0 ((2, ()), ())).bind fun z1 => (p8 (((), z1.1.1, ()), z.2.1, z.2.2.1, ())).bind fun z => some ((), z.2.1, z.2.2.1, ()) else (p7 (((), [o.a], ()), z.2.1, z.2.2.1, ())).bind fun z => (p1 ((o.a, ()), ())).bind fun z1 => (p2 (((), z1.1.1, ()), z.2.1, z.2.2.1, ())).bind fun z => bif z.1.1 == 0 then (p0 ((2, ()), ())).bind fun z2 => (p8 (((), z2.1.1, ()), z.2.1, z.2.2.1, ())).bind fun z => some ((), z.2.1, z.2.2.1, ()) else (p3 (((), 1, z.1.1, 3, ()), z.2.1, z.2.2.1, ())).bind fun z2 => (p9 (((), (), z.1.1, z2.1.1, z2.1.1, ()), z2.2.1, z2.2.2.1, (o, ()), ())).bind fun z => selim z (fun z => (p5 (((), 3, ()), z.2.1, z.2.2.1, ())).bind fun z3 => bif z3.1.1 == 0 then (p0 ((3, ()), ())).bind fun z => (p8 (((), z.1.1, ()), z3.2.1, z3.2.2.1, ())).bind fun z => some ((), z.2.1, z.2.2.1, ()) else (p4 (((), 3, z3.1.1, 0, z.2.2.2.1.1.k, ()), z3.2.1, z3.2.2.1, ())).bind fun z4 => (p4 (((), 3, z3.1.1, 1, z.2.2.2.1.1.v, ()), z4.2.1, z4.2.2.1, ())).bind fun z5 => (p4 (((), 3, z3.1.1, 2, z.1.2.2.2.1, ()), z5.2.1, z5.2.2.1, ())).bind fun z6 => (p4 (((), 1, z.1.2.2.1, 3, z3.1.1, ()), z6.2.1, z6.2.2.1, ())).bind fun z => (p8 (((), Res.mk 0 0 [] [] [], ()), z.2.1, z.2.2.1, ())).bind fun z => some ((), z.2.1, z.2.2.1, ())) fun z => some ((), z.2.1, z.2.2.1, ())
noncomputable def pSetPN : pSetPE.T := pSetPE.un (pSetPB pFailedN pDirN pLoadN pFieldN pPutN pTakeN pKnownN pLatchN pLeaveN pSetPL0N)
theorem pSetP_raw (p0 : pFailedE.T) (p1 : pDirE.T) (p2 : pLoadE.T) (p3 : pFieldE.T) (p4 : pPutE.T) (p5 : pTakeE.T) (p6 : pKnownE.T) (p7 : pLatchE.T) (p8 : pLeaveE.T) (p9 : pSetPL0E.T) (x) : pSetPE.run [pFailedE.on p0, pDirE.on p1, pLoadE.on p2, pFieldE.on p3, pPutE.on p4, pTakeE.on p5, pKnownE.on p6, pLatchE.on p7, pLeaveE.on p8] [(9, pSetPL0E.on p9)] [] x = pSetPE.un (pSetPB p0 p1 p2 p3 p4 p5 p6 p7 p8 p9) x := by kernel_rfl
theorem pSetP_ok : pSetPE.Ok pSetPN := Fe.k (by kernel_rfl) (pFailed_ok.k (pDir_ok.k (pLoad_ok.k (pField_ok.k (pPut_ok.k (pTake_ok.k (pKnown_ok.k (pLatch_ok.k (pLeave_ok.k g0))))))))) (lcok (by kernel_rfl) (lsc (by kernel_rfl) pSetPL0_ok rfl lsn)) (pSetP_raw pFailedN pDirN pLoadN pFieldN pPutN pTakeN pKnownN pLatchN pLeaveN pSetPL0N)
noncomputable abbrev pDelL0E : Le := ⟨2, Tryz.f34, 0, [0, 3, 4, 5, 6], [pm, .s (.ptr 2 0), vi, vi, vi], PO2, ((Fin.one 2 Tryz.f34.ntmps (.exit 0) [0] [pm] PO).or (Fin.one 2 Tryz.f34.ntmps .ret [] [] PO))⟩
noncomputable def pDelL0B (p0 : pFieldE.T) (p1 : pPutE.T) (p2 : pRetireE.T) (p3 : pLeaveE.T) (v2 v3 v4 : Int) (c : Cfg) (got held : List Int) (ok : Bool) (r : Res) (dd : List Acc) (v12 : Opn) : Option (pDelL0E.X ⊕ pDelL0E.fin.Y) := bif v4 != 0 then bif ok then (p0 (((), 3, v4, 0, ()), ps c got held ok r dd)).bind fun z => bif z.1.1 == v12.k then (p0 (((), 3, v4, 2, ()), z.2.1, z.2.2.1, ())).bind fun z => bif v3 == 0 then (p1 (((), 1, v2, 3, z.1.1, ()), z.2.1, z.2.2.1, ())).bind fun z => (p2 (((), 3, v4, ()), z.2.1, z.2.2.1, ())).bind fun z => (p3 (((), Res.mk 0 0 [] [] [], ()), z.2.1, z.2.2.1, ())).bind fun z => some (Sum.inr (Sum.inr ((), z.2.1, z.2.2.1, ()))) else (p1 (((), 3, v3, 2, z.1.1, ()), z.2.1, z.2.2.1, ())).bind fun z => (p2 (((), 3, v4, ()), z.2.1, z.2.2.1, ())).bind fun z => (p3 (((), Res.mk 0 0 [] [] [], ()), z.2.1, z.2.2.1, ())).bind fun z => some (Sum.inr (Sum.inr ((), z.2.1, z.2.2.1, ()))) else (p0 (((), 3, v4, 2, ()), z.2.1, z.2.2.1, ())).bind fun z => some (Sum.inl (((), (), v2, v4, z.1.1, ()), z.2.1, z.2.2.1, (v12, ()), ())) else some (Sum.inr (Sum.inl (((), ()), ps c got held ok r dd))) else some (Sum.inr (Sum.inl (((), ()), ps c got held ok r dd)))
noncomputable def pDelL0N : pDelL0E.T := pDelL0E.lp (pDelL0E.un (pDelL0B pFieldN pPutN pRetireN pLeaveN))
theorem pDelL0_raw (p0 : pFieldE.T) (p1 : pPutE.T) (p2 : pRetireE.T) (p3 : pLeaveE.T) (x) : pDelL0E.run [pFieldE.on p0, pPutE.on p1, pRetireE.on p2, pLeaveE.on p3] [] [] x = pDelL0E.un (pDelL0B p0 p1 p2 p3) x := by kernel_rfl
theorem pDelL0_ok : pDelL0E.Ok pDelL0N := Le.k (fo f1 f1) (pField_ok.k (pPut_ok.k (pRetire_ok.k (pLeave_ok.k g0)))) (noloopN (by kernel_rfl)) (pDelL0_raw pFieldN pPutN pRetireN pLeaveN)
noncomputable abbrev pDelE : Fe := ⟨34, Tryz.f34, [pm, .s (.e (.st .opn))], PO, [], PO⟩
noncomputable def pDelB (p0 : pFailedE.T) (p1 : pDirE.T) (p2 : pLoadE.T) (p3 : pFieldE.T) (p4 : pPutE.T) (p5 : pRetireE.T) (p6 : pKnownE.T) (p7 : pLatchE.T) (p8 : pLeaveE.T) (p9 : pDelL0E.T) (o : Opn) (c : Cfg) (got held : List Int) (ok : Bool) (r : Res) (dd : List Acc) : Option pDelE.Y := (p6 (((), o.a, ()), ps c got held ok r dd)).bind fun z => bif !z.1.1 then (p0 ((2, ()), ())).bind fun z1 => (p8 (((), z1.1.1, ()), z.2.1, z.2.2.1, ())).bind fun z => some ((), z.2.1, z.2.2.1, ()) else (p7 (((), [o.a], ()), z.2.1, z.2.2.1, ())).bind fun z => (p1 ((o.a, ()), ())).bind fun z1 => (p2 (((), z1.1.1, ()), z.2.1, z.2.2.1, ())).bind fun z => bif z.1.1 == 0 then (p0 ((2, ()), ())).bind fun z2 => (p8 (((), z2.1.1, ()), z.2.1, z.2.2.1, ())).bind fun z => some ((), z.2.1, z.2.2.1, ()) else (p3 (((), 1, z.1.1, 3, ()), z.2.1, z.2.2.1, ())).bind fun z2 => (p9 (((), (), z.1.1, 0, z2.1.1, ()), z2.2.1, z2.2.2.1, (o, ()), ())).bind fun z => selim z (fun z => (p0 ((2, ()), ())).bind fun z3 => (p8 (((), z3.1.1, ()), z.2.1, z.2.2.1, ())).bind fun z => some ((), z.2.1, z.2.2.1, ())) fun z => some ((), z.2.1, z.2.2.1, ())
noncomputable def pDelN : pDelE.T := pDelE.un (pDelB pFailedN pDirN pLoadN pFieldN pPutN pRetireN pKnownN pLatchN pLeaveN pDelL0N)
theorem pDel_raw (p0 : pFailedE.T) (p1 : pDirE.T) (p2 : pLoadE.T) (p3 : pFieldE.T) (p4 : pPutE.T) (p5 : pRetireE.T) (p6 : pKnownE.T) (p7 : pLatchE.T) (p8 : pLeaveE.T) (p9 : pDelL0E.T) (x) : pDelE.run [pFailedE.on p0, pDirE.on p1, pLoadE.on p2, pFieldE.on p3, pPutE.on p4, pRetireE.on p5, pKnownE.on p6, pLatchE.on p7, pLeaveE.on p8] [(9, pDelL0E.on p9)] [] x = pDelE.un (pDelB p0 p1 p2 p3 p4 p5 p6 p7 p8 p9) x := by kernel_rfl
theorem pDel_ok : pDelE.Ok pDelN := Fe.k (by kernel_rfl) (pFailed_ok.k (pDir_ok.k (pLoad_ok.k (pField_ok.k (pPut_ok.k (pRetire_ok.k (pKnown_ok.k (pLatch_ok.k (pLeave_ok.k g0))))))))) (lcok (by kernel_rfl) (lsc (by kernel_rfl) pDelL0_ok rfl lsn)) (pDel_raw pFailedN pDirN pLoadN pFieldN pPutN pRetireN pKnownN pLatchN pLeaveN pDelL0N)
noncomputable abbrev pGetL1E : Le := ⟨2, Tryz.f35, 1, [0, 3, 4, 6, 7], [pm, .s (.ptr 2 0), vi, .s (.own 3), vi], [.box [.e (.st .cfg), .e (.sl .int), .own 1, .e (.sl .int), .e .bool, .e (.st .res)], .arr (.st .acc), .box [.e (.st .opn)], .arr (.st .pr)], (Fin.one 2 Tryz.f35.ntmps (.exit 2) [0, 3, 4, 6] [pm, .s (.ptr 2 0), vi, .s (.own 3)] [.box [.e (.st .cfg), .e (.sl .int), .own 1, .e (.sl .int), .e .bool, .e (.st .res)], .arr (.st .acc), .box [.e (.st .opn)], .arr (.st .pr)])⟩
noncomputable def pGetL1B (p0 : pFieldE.T) (v2 v4 : Int) (c : Cfg) (got held : List Int) (ok : Bool) (r : Res) (dd : List Acc) (v12 : Opn) (v13 : List Pr) : Option (pGetL1E.X ⊕ pGetL1E.fin.Y) := bif v4 != 0 then bif ok then (p0 (((), 3, v4, 0, ()), ps c got held ok r dd)).bind fun z => (p0 (((), 3, v4, 1, ()), z.2.1, z.2.2.1, ())).bind fun z1 => bif decide (v13.length + [Pr.mk z.1.1 z1.1.1].length ≤ 1000000000) then (p0 (((), 3, v4, 2, ()), z1.2.1, z1.2.2.1, ())).bind fun z2 => some (Sum.inl (((), (), v2, (), z2.1.1, ()), z2.2.1, z2.2.2.1, (v12, ()), v13 ++ [Pr.mk z.1.1 z1.1.1], ())) else none else some (Sum.inr (((), (), v2, (), ()), (c, got, (), held, ok, r, ()), dd, (v12, ()), v13, ())) else some (Sum.inr (((), (), v2, (), ()), (c, got, (), held, ok, r, ()), dd, (v12, ()), v13, ()))
noncomputable def pGetL1N : pGetL1E.T := pGetL1E.lp (pGetL1E.un (pGetL1B pFieldN))
theorem pGetL1_raw (p0 : pFieldE.T) (x) : pGetL1E.run [pFieldE.on p0] [] [(8, [(6, none, (.st .pr))])] x = pGetL1E.un (pGetL1B p0) x := by kernel_rfl
theorem pGetL1_ok : pGetL1E.Ok pGetL1N := Le.k f1 (pField_ok.k g0) (noloopN (by kernel_rfl)) (pGetL1_raw pFieldN)
noncomputable abbrev pGetL0E : Le := ⟨2, Tryz.f35, 0, [0, 3], [pm, .s (.ptr 2 0)], PO2, ((Fin.one 2 Tryz.f35.ntmps (.exit 0) [] [] PO).or (Fin.one 2 Tryz.f35.ntmps .ret [] [] PO))⟩
noncomputable def pGetL0B (p0 : pFailedE.T) (p1 : pDirE.T) (p2 : pLoadE.T) (p3 : pFieldE.T) (p4 : pSeeE.T) (p5 : pLeaveE.T) (p6 : pSortPrE.T) (p7 : pGetL1E.T) (c : Cfg) (got held : List Int) (ok : Bool) (r : Res) (dd : List Acc) (v9 : Opn) : Option (pGetL0E.X ⊕ pGetL0E.fin.Y) := bif ok then (p4 (((), v9.a, ()), ps c got held ok r dd)).bind fun z => (p1 ((v9.a, ()), ())).bind fun z1 => (p2 (((), z1.1.1, ()), z.2.1, z.2.2.1, ())).bind fun z2 => bif z2.1.1 == 0 then (p0 ((2, ()), ())).bind fun z => (p5 (((), z.1.1, ()), z2.2.1, z2.2.2.1, ())).bind fun z => some (Sum.inr (Sum.inr ((), z.2.1, z.2.2.1, ()))) else (p3 (((), 1, z2.1.1, 3, ()), z2.2.1, z2.2.2.1, ())).bind fun z3 => (p7 (((), (), z.1.1, (), z3.1.1, ()), z3.2.1, z3.2.2.1, (v9, ()), [], ())).bind fun z => (p4 (((), z.2.2.2.1.1.a, ()), z.2.1, z.2.2.1, ())).bind fun z4 => bif z4.1.1 == z.1.2.2.1 then (p6 ((z.2.2.2.2.1, ()), ())).bind fun z => (p5 (((), Res.mk 0 0 z.1.1 [] [], ()), z4.2.1, z4.2.2.1, ())).bind fun z => some (Sum.inr (Sum.inr ((), z.2.1, z.2.2.1, ()))) else some (Sum.inl (((), (), ()), z4.2.1, z4.2.2.1, (z.2.2.2.1.1, ()), ())) else some (Sum.inr (Sum.inl ((), ps c got held ok r dd)))
noncomputable def pGetL0N : pGetL0E.T := pGetL0E.lp (pGetL0E.un (pGetL0B pFailedN pDirN pLoadN pFieldN pSeeN pLeaveN pSortPrN pGetL1N))
theorem pGetL0_raw (p0 : pFailedE.T) (p1 : pDirE.T) (p2 : pLoadE.T) (p3 : pFieldE.T) (p4 : pSeeE.T) (p5 : pLeaveE.T) (p6 : pSortPrE.T) (p7 : pGetL1E.T) (x) : pGetL0E.run [pFailedE.on p0, pDirE.on p1, pLoadE.on p2, pFieldE.on p3, pSeeE.on p4, pLeaveE.on p5, pSortPrE.on p6] [(10, pGetL1E.on p7)] [(8, [(6, none, (.st .pr))])] x = pGetL0E.un (pGetL0B p0 p1 p2 p3 p4 p5 p6 p7) x := by kernel_rfl
theorem pGetL0_ok : pGetL0E.Ok pGetL0N := Le.k (fo f1 f1) (pFailed_ok.k (pDir_ok.k (pLoad_ok.k (pField_ok.k (pSee_ok.k (pLeave_ok.k (pSortPr_ok.k g0))))))) (lcok (by kernel_rfl) (lsc (by kernel_rfl) pGetL1_ok rfl lsn)) (pGetL0_raw pFailedN pDirN pLoadN pFieldN pSeeN pLeaveN pSortPrN pGetL1N)
noncomputable abbrev pGetE : Fe := ⟨35, Tryz.f35, [pm, .s (.e (.st .opn))], PO, [], PO⟩
noncomputable def pGetB (p0 : pFailedE.T) (p1 : pDirE.T) (p2 : pLoadE.T) (p3 : pFieldE.T) (p4 : pSeeE.T) (p5 : pKnownE.T) (p6 : pLeaveE.T) (p7 : pSortPrE.T) (p8 : pGetL1E.T) (p9 : pGetL0E.T) (o : Opn) (c : Cfg) (got held : List Int) (ok : Bool) (r : Res) (dd : List Acc) : Option pGetE.Y := (p5 (((), o.a, ()), ps c got held ok r dd)).bind fun z => bif !z.1.1 then (p0 ((2, ()), ())).bind fun z1 => (p6 (((), z1.1.1, ()), z.2.1, z.2.2.1, ())).bind fun z => some ((), z.2.1, z.2.2.1, ()) else (p9 (((), (), ()), z.2.1, z.2.2.1, (o, ()), ())).bind fun z => selim z (fun z => some ((), z.2.1, z.2.2.1, ())) fun z => some ((), z.2.1, z.2.2.1, ())
noncomputable def pGetN : pGetE.T := pGetE.un (pGetB pFailedN pDirN pLoadN pFieldN pSeeN pKnownN pLeaveN pSortPrN pGetL1N pGetL0N)
theorem pGet_raw (p0 : pFailedE.T) (p1 : pDirE.T) (p2 : pLoadE.T) (p3 : pFieldE.T) (p4 : pSeeE.T) (p5 : pKnownE.T) (p6 : pLeaveE.T) (p7 : pSortPrE.T) (p8 : pGetL1E.T) (p9 : pGetL0E.T) (x) : pGetE.run [pFailedE.on p0, pDirE.on p1, pLoadE.on p2, pFieldE.on p3, pSeeE.on p4, pKnownE.on p5, pLeaveE.on p6, pSortPrE.on p7] [(10, pGetL1E.on p8), (3, pGetL0E.on p9)] [(8, [(6, none, (.st .pr))])] x = pGetE.un (pGetB p0 p1 p2 p3 p4 p5 p6 p7 p8 p9) x := by kernel_rfl
theorem pGet_ok : pGetE.Ok pGetN := Fe.k (by kernel_rfl) (pFailed_ok.k (pDir_ok.k (pLoad_ok.k (pField_ok.k (pSee_ok.k (pKnown_ok.k (pLeave_ok.k (pSortPr_ok.k g0)))))))) (lcok (by kernel_rfl) (lsc (by kernel_rfl) pGetL0_ok rfl (lsc (by kernel_rfl) pGetL1_ok rfl lsn))) (pGet_raw pFailedN pDirN pLoadN pFieldN pSeeN pKnownN pLeaveN pSortPrN pGetL1N pGetL0N)
noncomputable abbrev pNearL2E : Le := ⟨2, Tryz.f36, 2, [0, 3, 4, 6, 7, 11], [pm, .s (.ptr 2 0), vi, .s (.own 3), .s (.own 4), vi], [.box [.e (.st .cfg), .e (.sl .int), .own 1, .e (.sl .int), .e .bool, .e (.st .res)], .arr (.st .acc), .box [.e (.st .opn)], .arr (.st .en), .arr (.st .en)], (Fin.one 2 Tryz.f36.ntmps (.exit 4) [0, 3, 4, 6, 7] [pm, .s (.ptr 2 0), vi, .s (.own 3), .s (.own 4)] [.box [.e (.st .cfg), .e (.sl .int), .own 1, .e (.sl .int), .e .bool, .e (.st .res)], .arr (.st .acc), .box [.e (.st .opn)], .arr (.st .en), .arr (.st .en)])⟩
noncomputable def pNearL2B (p0 : pFieldE.T) (v2 v5 : Int) (c : Cfg) (got held : List Int) (ok : Bool) (r : Res) (dd : List Acc) (v13 : Opn) (v14 v15 : List En) : Option (pNearL2E.X ⊕ pNearL2E.fin.Y) := bif v5 != 0 then bif ok then (p0 (((), 2, v5, 0, ()), ps c got held ok r dd)).bind fun z => (p0 (((), 2, v5, 1, ()), z.2.1, z.2.2.1, ())).bind fun z1 => bif decide (v15.length + [En.mk z.1.1 z1.1.1].length ≤ 1000000000) then (p0 (((), 2, v5, 4, ()), z1.2.1, z1.2.2.1, ())).bind fun z2 => some (Sum.inl (((), (), v2, (), (), z2.1.1, ()), z2.2.1, z2.2.2.1, (v13, ()), v14, v15 ++ [En.mk z.1.1 z1.1.1], ())) else none else some (Sum.inr (((), (), v2, (), (), ()), (c, got, (), held, ok, r, ()), dd, (v13, ()), v14, v15, ())) else some (Sum.inr (((), (), v2, (), (), ()), (c, got, (), held, ok, r, ()), dd, (v13, ()), v14, v15, ()))
noncomputable def pNearL2N : pNearL2E.T := pNearL2E.lp (pNearL2E.un (pNearL2B pFieldN))
theorem pNearL2_raw (p0 : pFieldE.T) (x) : pNearL2E.run [pFieldE.on p0] [] [(8, [(6, none, (.st .en)), (7, none, (.st .en))])] x = pNearL2E.un (pNearL2B p0) x := by kernel_rfl
theorem pNearL2_ok : pNearL2E.Ok pNearL2N := Le.k f1 (pField_ok.k g0) (noloopN (by kernel_rfl)) (pNearL2_raw pFieldN)
noncomputable abbrev pNearL1E : Le := ⟨2, Tryz.f36, 1, [0, 3, 4, 5, 6, 7, 8], [pm, .s (.ptr 2 0), vi, vi, .s (.own 3), .s (.own 4), vi], [.box [.e (.st .cfg), .e (.sl .int), .own 1, .e (.sl .int), .e .bool, .e (.st .res)], .arr (.st .acc), .box [.e (.st .opn)], .arr (.st .en), .arr (.st .en)], (Fin.one 2 Tryz.f36.ntmps (.exit 2) [0, 3, 4, 5, 6, 7] [pm, .s (.ptr 2 0), vi, vi, .s (.own 3), .s (.own 4)] [.box [.e (.st .cfg), .e (.sl .int), .own 1, .e (.sl .int), .e .bool, .e (.st .res)], .arr (.st .acc), .box [.e (.st .opn)], .arr (.st .en), .arr (.st .en)])⟩
noncomputable def pNearL1B (p0 : pFieldE.T) (v2 v3 v6 : Int) (c : Cfg) (got held : List Int) (ok : Bool) (r : Res) (dd : List Acc) (v14 : Opn) (v15 v16 : List En) : Option (pNearL1E.X ⊕ pNearL1E.fin.Y) := bif v6 != 0 then bif ok then (p0 (((), 2, v6, 0, ()), ps c got held ok r dd)).bind fun z => (p0 (((), 2, v6, 2, ()), z.2.1, z.2.2.1, ())).bind fun z1 => bif decide (v15.length + [En.mk z.1.1 z1.1.1].length ≤ 1000000000) then (p0 (((), 2, v6, 3, ()), z1.2.1, z1.2.2.1, ())).bind fun z2 => some (Sum.inl (((), (), v2, v3, (), (), z2.1.1, ()), z2.2.1, z2.2.2.1, (v14, ()), v15 ++ [En.mk z.1.1 z1.1.1], v16, ())) else none else some (Sum.inr (((), (), v2, v3, (), (), ()), (c, got, (), held, ok, r, ()), dd, (v14, ()), v15, v16, ())) else some (Sum.inr (((), (), v2, v3, (), (), ()), (c, got, (), held, ok, r, ()), dd, (v14, ()), v15, v16, ()))
noncomputable def pNearL1N : pNearL1E.T := pNearL1E.lp (pNearL1E.un (pNearL1B pFieldN))
theorem pNearL1_raw (p0 : pFieldE.T) (x) : pNearL1E.run [pFieldE.on p0] [] [(8, [(6, none, (.st .en)), (7, none, (.st .en))])] x = pNearL1E.un (pNearL1B p0) x := by kernel_rfl
theorem pNearL1_ok : pNearL1E.Ok pNearL1N := Le.k f1 (pField_ok.k g0) (noloopN (by kernel_rfl)) (pNearL1_raw pFieldN)
noncomputable abbrev pNearL0E : Le := ⟨2, Tryz.f36, 0, [0, 3], [pm, .s (.ptr 2 0)], PO2, ((Fin.one 2 Tryz.f36.ntmps (.exit 0) [] [] PO).or (Fin.one 2 Tryz.f36.ntmps .ret [] [] PO))⟩
noncomputable def pNearL0B (p0 : pFailedE.T) (p1 : pDirE.T) (p2 : pLoadE.T) (p3 : pFieldE.T) (p4 : pSeeE.T) (p5 : pLeaveE.T) (p6 : pSortEnE.T) (p7 : pNearL1E.T) (p8 : pNearL2E.T) (c : Cfg) (got held : List Int) (ok : Bool) (r : Res) (dd : List Acc) (v9 : Opn) : Option (pNearL0E.X ⊕ pNearL0E.fin.Y) := bif ok then (p4 (((), v9.a, ()), ps c got held ok r dd)).bind fun z => (p1 ((v9.a, ()), ())).bind fun z1 => (p2 (((), z1.1.1, ()), z.2.1, z.2.2.1, ())).bind fun z2 => bif z2.1.1 == 0 then (p0 ((2, ()), ())).bind fun z => (p5 (((), z.1.1, ()), z2.2.1, z2.2.2.1, ())).bind fun z => some (Sum.inr (Sum.inr ((), z.2.1, z.2.2.1, ()))) else (p3 (((), 1, z2.1.1, 1, ()), z2.2.1, z2.2.2.1, ())).bind fun z3 => (p7 (((), (), z.1.1, z2.1.1, (), (), z3.1.1, ()), z3.2.1, z3.2.2.1, (v9, ()), [], [], ())).bind fun z => (p3 (((), 1, z.1.2.2.2.1, 2, ()), z.2.1, z.2.2.1, ())).bind fun z4 => (p8 (((), (), z.1.2.2.1, (), (), z4.1.1, ()), z4.2.1, z4.2.2.1, (z.2.2.2.1.1, ()), z.2.2.2.2.1, z.2.2.2.2.2.1, ())).bind fun z => (p4 (((), z.2.2.2.1.1.a, ()), z.2.1, z.2.2.1, ())).bind fun z5 => bif z5.1.1 == z.1.2.2.1 then (p6 ((z.2.2.2.2.1, ()), ())).bind fun z6 => (p6 ((z.2.2.2.2.2.1, ()), ())).bind fun z => (p5 (((), Res.mk 0 0 [] z6.1.1 z.1.1, ()), z5.2.1, z5.2.2.1, ())).bind fun z => some (Sum.inr (Sum.inr ((), z.2.1, z.2.2.1, ()))) else some (Sum.inl (((), (), ()), z5.2.1, z5.2.2.1, (z.2.2.2.1.1, ()), ())) else some (Sum.inr (Sum.inl ((), ps c got held ok r dd)))
noncomputable def pNearL0N : pNearL0E.T := pNearL0E.lp (pNearL0E.un (pNearL0B pFailedN pDirN pLoadN pFieldN pSeeN pLeaveN pSortEnN pNearL1N pNearL2N))
theorem pNearL0_raw (p0 : pFailedE.T) (p1 : pDirE.T) (p2 : pLoadE.T) (p3 : pFieldE.T) (p4 : pSeeE.T) (p5 : pLeaveE.T) (p6 : pSortEnE.T) (p7 : pNearL1E.T) (p8 : pNearL2E.T) (x) : pNearL0E.run [pFailedE.on p0, pDirE.on p1, pLoadE.on p2, pFieldE.on p3, pSeeE.on p4, pLeaveE.on p5, pSortEnE.on p6] [(10, pNearL1E.on p7), (16, pNearL2E.on p8)] [(8, [(6, none, (.st .en)), (7, none, (.st .en))])] x = pNearL0E.un (pNearL0B p0 p1 p2 p3 p4 p5 p6 p7 p8) x := by kernel_rfl
theorem pNearL0_ok : pNearL0E.Ok pNearL0N := Le.k (fo f1 f1) (pFailed_ok.k (pDir_ok.k (pLoad_ok.k (pField_ok.k (pSee_ok.k (pLeave_ok.k (pSortEn_ok.k g0))))))) (lcok (by kernel_rfl) (lsc (by kernel_rfl) pNearL1_ok rfl (lsc (by kernel_rfl) pNearL2_ok rfl lsn))) (pNearL0_raw pFailedN pDirN pLoadN pFieldN pSeeN pLeaveN pSortEnN pNearL1N pNearL2N)
noncomputable abbrev pNearE : Fe := ⟨36, Tryz.f36, [pm, .s (.e (.st .opn))], PO, [], PO⟩
noncomputable def pNearB (p0 : pFailedE.T) (p1 : pDirE.T) (p2 : pLoadE.T) (p3 : pFieldE.T) (p4 : pSeeE.T) (p5 : pKnownE.T) (p6 : pLeaveE.T) (p7 : pSortEnE.T) (p8 : pNearL1E.T) (p9 : pNearL2E.T) (p10 : pNearL0E.T) (o : Opn) (c : Cfg) (got held : List Int) (ok : Bool) (r : Res) (dd : List Acc) : Option pNearE.Y := (p5 (((), o.a, ()), ps c got held ok r dd)).bind fun z => bif !z.1.1 then (p0 ((2, ()), ())).bind fun z1 => (p6 (((), z1.1.1, ()), z.2.1, z.2.2.1, ())).bind fun z => some ((), z.2.1, z.2.2.1, ()) else (p10 (((), (), ()), z.2.1, z.2.2.1, (o, ()), ())).bind fun z => selim z (fun z => some ((), z.2.1, z.2.2.1, ())) fun z => some ((), z.2.1, z.2.2.1, ())
noncomputable def pNearN : pNearE.T := pNearE.un (pNearB pFailedN pDirN pLoadN pFieldN pSeeN pKnownN pLeaveN pSortEnN pNearL1N pNearL2N pNearL0N)
theorem pNear_raw (p0 : pFailedE.T) (p1 : pDirE.T) (p2 : pLoadE.T) (p3 : pFieldE.T) (p4 : pSeeE.T) (p5 : pKnownE.T) (p6 : pLeaveE.T) (p7 : pSortEnE.T) (p8 : pNearL1E.T) (p9 : pNearL2E.T) (p10 : pNearL0E.T) (x) : pNearE.run [pFailedE.on p0, pDirE.on p1, pLoadE.on p2, pFieldE.on p3, pSeeE.on p4, pKnownE.on p5, pLeaveE.on p6, pSortEnE.on p7] [(10, pNearL1E.on p8), (16, pNearL2E.on p9), (3, pNearL0E.on p10)] [(8, [(6, none, (.st .en)), (7, none, (.st .en))])] x = pNearE.un (pNearB p0 p1 p2 p3 p4 p5 p6 p7 p8 p9 p10) x := by kernel_rfl
theorem pNear_ok : pNearE.Ok pNearN := Fe.k (by kernel_rfl) (pFailed_ok.k (pDir_ok.k (pLoad_ok.k (pField_ok.k (pSee_ok.k (pKnown_ok.k (pLeave_ok.k (pSortEn_ok.k g0)))))))) (lcok (by kernel_rfl) (lsc (by kernel_rfl) pNearL0_ok rfl (lsc (by kernel_rfl) pNearL1_ok rfl (lsc (by kernel_rfl) pNearL2_ok rfl lsn)))) (pNear_raw pFailedN pDirN pLoadN pFieldN pSeeN pKnownN pLeaveN pSortEnN pNearL1N pNearL2N pNearL0N)
end Go.Ax.Cd
