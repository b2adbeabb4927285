/- Merged. -/
import Derived.Test.YteoeolfcpmalfaaGreatDoorQ31
import Derived.Test.YteoeolfcpmalfaaGreatDoorQ16
namespace Go.Ax.Cd
open Go.Proofs
set_option linter.unusedVariables false
set_option maxRecDepth 100000
set_option linter.unusedSimpArgs false
set_option linter.unusedSectionVars false
set_option maxHeartbeats 4000000
theorem pWi (a b : List Int) (ha : a.length ≤ 1000000000) (hb : b.length ≤ 1000000000) : pWithinN ((a, b, ()), ()) = some ((ordIn a b, ()), ()) := by
 have key : ∀ (n j m : Nat), j + n = a.length → n < m → loopF (pWithinL0E.un (pWithinL0B pHasN)) m ((b, a, Int.ofNat a.length, (j : Int), ()), ()) = some (if (a.drop j).all (fun x => b.contains x) then .inl ((), ()) else .inr ((false, ()), ())) := by
  intro n
  induction n with
  | zero =>
   intro j m hj hm
   obtain ⟨m, rfl⟩ : ∃ k, m = k + 1 := ⟨m - 1, by omega⟩
   have : j = a.length := by omega
   subst this
   rw [loopF]
   show (pWithinL0B pHasN b a (Int.ofNat a.length) (a.length : Int)).bind _ = _
   unfold pWithinL0B
   rw [decide_eq_false (by simp), List.drop_length]
   rfl
  | succ n ih =>
   intro j m hj hm
   obtain ⟨m, rfl⟩ : ∃ k, m = k + 1 := ⟨m - 1, by omega⟩
   have hl : j < a.length := by omega
   rw [loopF]
   show (pWithinL0B pHasN b a (Int.ofNat a.length) (j : Int)).bind _ = _
   unfold pWithinL0B
   rw [decide_eq_true (show (j : Int) < Int.ofNat a.length by simp; omega), inR_ge hl, rd_ix, pHas_eq _ _ hb, w64_ix (by omega)]
   have e1 : a.getD j 0 = a[j] := by rw [List.getD_eq_getElem?_getD, List.getElem?_eq_getElem hl]; rfl
   have e2 : a.drop j = a[j] :: a.drop (j + 1) := List.drop_eq_getElem_cons hl
   rw [e1, e2, List.all_cons]
   cases hc : b.contains a[j]
   ·rfl
   ·simp only [Bool.true_and]
    exact ih (j + 1) m (by omega) (by omega)
 show (pWithinL0N ((b, a, Int.ofNat a.length, 0, ()), ())).bind _ = _
 have h1 : pWithinL0N ((b, a, Int.ofNat a.length, 0, ()), ()) = _ := key a.length 0 FU (by omega) (by unfold FU; omega)
 rw [h1, List.drop_zero]
 unfold ordIn
 cases (a.all fun x => b.contains x) <;> rfl
theorem Zf {α Y : Type} {c : Cfg} {got h : List Int} [hg : Bd got] [hh : Bd h] {r : Res} {d : List Acc} {k : Unit → T α} {F : VhL [] × PS → Option Y} {L : α → List Acc → Y → Prop} {D : List Acc → Y → Prop}
  (hk : ∀ d, Sim ((k ()).exec got d) (F ((), ps c got [] true r d)) L D) (hd : ∀ d z, DD c got d z → Gets (F z) (D d)) : Sim (((freeTr h).bind k).exec got d) ((pFreeN (((), ()), ps c got h true r d)).bind F) L D :=
 Sim.bind pFree_sim (fun x d z hz => by subst hz; exact hk d) hd
theorem Dead.held {c : Cfg} {got : List Int} {d : List Acc} {s : PS} (h : Dead c got d s) : s.1.2.2.2.1.length ≤ 1000000 := by
 obtain ⟨h, r, hh, rfl⟩ := h
 exact hh
theorem Zw {α Y : Type} {o : Out α} {a b : List Int} [ha : Bd a] [hb : Bd b] {F : VhL [vb] × OShL [] → Option Y} {L : α → List Acc → Y → Prop} {D : List Acc → Y → Prop} (hF : Sim o (F ((ordIn a b, ()), ())) L D) : Sim o ((pWithinN ((a, b, ()), ())).bind F) L D :=
 Zq (pWi a b (Nat.le_trans ha.h (by decide)) (Nat.le_trans hb.h (by decide))) hF
theorem Yw {Y : Type} {a : List Int} [ha : Bd a] {c : Cfg} {got : List Int} {d : List Acc} {s : PS} (hs : Dead c got d s) {F : VhL [vb] × OShL [] → Option Y} {D : Y → Prop} (hF : Gets (F ((ordIn a s.1.2.2.2.1, ()), ())) D) : Gets ((pWithinN ((a, s.1.2.2.2.1, ()), ())).bind F) D :=
 Yq (pWi a _ (Nat.le_trans ha.h (by decide)) (Nat.le_trans hs.held (by decide))) hF
section
variable {c : Cfg} {got h : List Int} [hg : Bd got] [hh : Bd h] {r : Res} {d : List Acc}
noncomputable abbrev pCutR : pCutL0E.X → Option (pCutL0E.X ⊕ pCutL0E.fin.Y) := pCutL0E.un (pCutL0B pWithinN pFailedN pLoadN pFieldN pEdgeN pLatchN pFreeN pLeaveN)
omit hg hh in
theorem dCutL {z : pCutL0E.X} (hz : Dead c got d (z.2.1, z.2.2.1, ())) {m : Nat} (hm : 0 < m) : loopF pCutR m z = some (.inl (((), (), z.1.2.2.1, z.1.2.2.2.1, z.1.2.2.2.2.1, ()), z.2.1, z.2.2.1, z.2.2.2.1, ())) := by
 obtain ⟨⟨_, _, a, b, x, _⟩, p, dd, ⟨o', _⟩, _⟩ := z
 obtain ⟨h, r, hh, e⟩ := hz
 cases e
 refine loopF_one hm ?_
 rfl
theorem loopS {σ β α : Type} {step : σ → T (σ ⊕ β)} {k : Nat} {s : σ} {K : β → T α} : (T.loop step (k + 1) s).bind K = (step s).bind fun | .inl s' => (T.loop step k s').bind K | .inr b => K b := by
 rw [T.loop, xA]
 congr 1
 funext x
 cases x <;> rfl
theorem loopFS {X Y Z : Type} {B : X → Option (X ⊕ Y)} {n : Nat} {x : X} {F : Y → Option Z} : (loopF B (n + 1) x).bind F = (B x).bind fun | .inl x' => (loopF B n x').bind F | .inr y => F y := by
 rw [loopF, Option.bind_assoc]
 congr 1
 funext x
 cases x <;> rfl
noncomputable abbrev cutG : pCutL0E.fin.Y → Option pCutE.Y := fun z => selim z (fun z => (pUnlinkN (((), 1, 3, z.1.2.2.2.1, z.1.2.2.1, ()), z.2.1, z.2.2.1, ())).bind fun z3 => (pUnlinkN (((), 2, 4, z.1.2.2.2.2.1, z.1.2.2.1, ()), z3.2.1, z3.2.2.1, ())).bind fun z4 => (pEdgeN (((), z.2.2.2.1.1.a, ()), z4.2.1, z4.2.2.1, ())).bind fun z5 => (pStoreN (((), z5.1.1, 0, ()), z5.2.1, z5.2.2.1, ())).bind fun z6 => (pRetireN (((), 2, z.1.2.2.1, ()), z6.2.1, z6.2.2.1, ())).bind fun z => (pLeaveN (((), Res.mk 0 0 [] [] [], ()), z.2.1, z.2.2.1, ())).bind fun z => some ((), z.2.1, z.2.2.1, ())) fun z => some ((), z.2.1, z.2.2.1, ())
theorem pCutL_sim {o : Opn} : ∀ (k : Nat) (s e r0 : Int) (d : List Acc) (m : Nat), k + 1 < m → Sim (((latchTr [s, e] c got []).bind fun x => (T.loop (cutL0Step o.a c got (Res.mk 0 0 [] [] [])) k (x, s, e)).bind fun a => finTr (Res.mk a.2 0 [] [] [], a.1)).exec got d) ((loopF pCutR m (((), (), r0, s, e, ()), (c, got, (), [], true, r, ()), d, (o, ()), ())).bind cutG) (Ov c got ()) (DD c got)
 | k, s, e, r0, d, 0, h => by omega
 | 0, s, e, r0, d, m + 1, h => by
  rw [loopFS]
  show Sim _ ((pCutL0B pWithinN pFailedN pLoadN pFieldN pEdgeN pLatchN pFreeN pLeaveN r0 s e c got [] true r d o).bind _) _ _
  unfold pCutL0B
  simp only [T.loop]
  simp only [F.tree, doT, frT, xA, xC, xT, xO, xS, yI, yR, zI, zR, xI, xR, yB, bne, cond_true, cond_false, Bool.not_true, Bool.not_false, Option.bind_assoc, Option.bind_some, zB]
  repeat' (first|(with_reducible first|refine Yd (by assumption) fun z hz =>?_|refine Yv ?_|refine Yg (by (refine decide_eq_true ?_; simp only [List.length_cons, List.length_nil, List.length_append]; omega)) ?_|refine Yc (fun _ =>?_) fun _ =>?_|refine Zs (fun x d hd =>?_) fun d z hz =>?_|refine Zv ?_|refine Zc (fun _ =>?_) fun _ =>?_|refine Zl (fun d =>?_) fun d z hz =>?_|exact Ze|refine Zk (fun d =>?_) fun d z hz =>?_|refine Zf (fun d =>?_) fun d z hz =>?_|refine Za (by assumption) (fun l d hl =>?_) (fun d z hz hl =>?_)|refine Zq (pWi _ _ (by simp; omega) (by simp; omega)) ?_|refine Zw ?_|refine Zq (pSp _ (by omega)) ?_|refine Zq (pSe _ (by omega)) ?_|refine Zt ?_|refine Zu ?_|refine Zn (fun _ =>?_) fun _ =>?_|refine Zo (fun _ =>?_) fun _ =>?_|refine Zg fun _ =>?_|exact Zb|refine Yl (by assumption) fun z hz =>?_|refine Ya (by assumption) fun z hz hl =>?_|refine Yq (pWi _ _ (by simp; omega) (Nat.le_trans (Dead.held (by assumption)) (by decide))) ?_|refine Yw (by assumption) ?_|refine Yq (pSp _ (by first | assumption | omega | simp)) ?_|refine Yq (pSe _ (by first | assumption | omega | simp)) ?_)|(refine Zr ?_;first|exact rfl|exact ⟨rfl, rfl⟩|exact ⟨rfl, by simp; omega⟩)|(refine Ys ?_; assumption)|(refine Ys ⟨by assumption, ?_⟩; simp; omega))
  all_goals
   refine Yq (dCutL (by assumption) (by omega)) ?_
   simp only [F.tree, doT, frT, xA, xC, xT, xO, xS, yI, yR, zI, zR, xI, xR, yB, bne, cond_true, cond_false, Bool.not_true, Bool.not_false, Option.bind_assoc, Option.bind_some, zB]
   repeat' (first|(with_reducible first|refine Yd (by assumption) fun z hz =>?_|refine Yv ?_|refine Yg (by (refine decide_eq_true ?_; simp only [List.length_cons, List.length_nil, List.length_append]; omega)) ?_|refine Yc (fun _ =>?_) fun _ =>?_|refine Yl (by assumption) fun z hz =>?_|refine Ya (by assumption) fun z hz hl =>?_|refine Yq (pWi _ _ (by simp; omega) (Nat.le_trans (Dead.held (by assumption)) (by decide))) ?_|refine Yw (by assumption) ?_|refine Yq (pSp _ (by first | assumption | omega | simp)) ?_|refine Yq (pSe _ (by first | assumption | omega | simp)) ?_)|(refine Ys ?_; assumption)|(refine Ys ⟨by assumption, ?_⟩; simp; omega))
 | k + 1, s, e, r0, d, m + 1, h => by
  rw [loopFS]
  show Sim _ ((pCutL0B pWithinN pFailedN pLoadN pFieldN pEdgeN pLatchN pFreeN pLeaveN r0 s e c got [] true r d o).bind _) _ _
  unfold pCutL0B
  simp only [loopS, cutL0Step, cutL0B]
  simp only [F.tree, doT, frT, xA, xC, xT, xO, xS, yI, yR, zI, zR, xI, xR, yB, bne, cond_true, cond_false, Bool.not_true, Bool.not_false, Option.bind_assoc, Option.bind_some, zB]
  repeat' (first|(with_reducible first|refine Yd (by assumption) fun z hz =>?_|refine Yv ?_|refine Yg (by (refine decide_eq_true ?_; simp only [List.length_cons, List.length_nil, List.length_append]; omega)) ?_|refine Yc (fun _ =>?_) fun _ =>?_|refine Zs (fun x d hd =>?_) fun d z hz =>?_|refine Zv ?_|refine Zc (fun _ =>?_) fun _ =>?_|refine Zl (fun d =>?_) fun d z hz =>?_|exact Ze|refine Zk (fun d =>?_) fun d z hz =>?_|refine Zf (fun d =>?_) fun d z hz =>?_|refine Za (by assumption) (fun l d hl =>?_) (fun d z hz hl =>?_)|refine Zq (pWi _ _ (by simp; omega) (by simp; omega)) ?_|refine Zw ?_|refine Zq (pSp _ (by omega)) ?_|refine Zq (pSe _ (by omega)) ?_|refine Zt ?_|refine Zu ?_|refine Zn (fun _ =>?_) fun _ =>?_|refine Zo (fun _ =>?_) fun _ =>?_|refine Zg fun _ =>?_|exact Zb|refine Yl (by assumption) fun z hz =>?_|refine Ya (by assumption) fun z hz hl =>?_|refine Yq (pWi _ _ (by simp; omega) (Nat.le_trans (Dead.held (by assumption)) (by decide))) ?_|refine Yw (by assumption) ?_|refine Yq (pSp _ (by first | assumption | omega | simp)) ?_|refine Yq (pSe _ (by first | assumption | omega | simp)) ?_)|(refine Zr ?_;first|exact rfl|exact ⟨rfl, rfl⟩|exact ⟨rfl, by simp; omega⟩)|(refine Ys ?_; assumption)|(refine Ys ⟨by assumption, ?_⟩; simp; omega))
  ·rw [show (ordSet [s, e]).isEmpty = false by rw [Bool.eq_false_iff, ne_eq, List.isEmpty_iff]; exact ordSet_ne (by simp)]
   simp only [F.tree, doT, frT, xA, xC, xT, xO, xS, yI, yR, zI, zR, xI, xR, yB, bne, cond_true, cond_false, Bool.not_true, Bool.not_false, Option.bind_assoc, Option.bind_some, zB]
   repeat' (first|(with_reducible first|refine Yd (by assumption) fun z hz =>?_|refine Yv ?_|refine Yg (by (refine decide_eq_true ?_; simp only [List.length_cons, List.length_nil, List.length_append]; omega)) ?_|refine Yc (fun _ =>?_) fun _ =>?_|refine Zs (fun x d hd =>?_) fun d z hz =>?_|refine Zv ?_|refine Zc (fun _ =>?_) fun _ =>?_|refine Zl (fun d =>?_) fun d z hz =>?_|exact Ze|refine Zk (fun d =>?_) fun d z hz =>?_|refine Zf (fun d =>?_) fun d z hz =>?_|refine Za (by assumption) (fun l d hl =>?_) (fun d z hz hl =>?_)|refine Zq (pWi _ _ (by simp; omega) (by simp; omega)) ?_|refine Zw ?_|refine Zq (pSp _ (by omega)) ?_|refine Zq (pSe _ (by omega)) ?_|refine Zt ?_|refine Zu ?_|refine Zn (fun _ =>?_) fun _ =>?_|refine Zo (fun _ =>?_) fun _ =>?_|refine Zg fun _ =>?_|exact Zb|refine Yl (by assumption) fun z hz =>?_|refine Ya (by assumption) fun z hz hl =>?_|refine Yq (pWi _ _ (by simp; omega) (Nat.le_trans (Dead.held (by assumption)) (by decide))) ?_|refine Yw (by assumption) ?_|refine Yq (pSp _ (by first | assumption | omega | simp)) ?_|refine Yq (pSe _ (by first | assumption | omega | simp)) ?_)|(refine Zr ?_;first|exact rfl|exact ⟨rfl, rfl⟩|exact ⟨rfl, by simp; omega⟩)|(refine Ys ?_; assumption)|(refine Ys ⟨by assumption, ?_⟩; simp; omega))
   ·exact pCutL_sim k _ _ _ _ m (by omega)
   ·refine Yq (dCutL (by assumption) (by omega)) ?_
    simp only [F.tree, doT, frT, xA, xC, xT, xO, xS, yI, yR, zI, zR, xI, xR, yB, bne, cond_true, cond_false, Bool.not_true, Bool.not_false, Option.bind_assoc, Option.bind_some, zB]
    repeat' (first|(with_reducible first|refine Yd (by assumption) fun z hz =>?_|refine Yv ?_|refine Yg (by (refine decide_eq_true ?_; simp only [List.length_cons, List.length_nil, List.length_append]; omega)) ?_|refine Yc (fun _ =>?_) fun _ =>?_|refine Yl (by assumption) fun z hz =>?_|refine Ya (by assumption) fun z hz hl =>?_|refine Yq (pWi _ _ (by simp; omega) (Nat.le_trans (Dead.held (by assumption)) (by decide))) ?_|refine Yw (by assumption) ?_|refine Yq (pSp _ (by first | assumption | omega | simp)) ?_|refine Yq (pSe _ (by first | assumption | omega | simp)) ?_)|(refine Ys ?_; assumption)|(refine Ys ⟨by assumption, ?_⟩; simp; omega))
  all_goals
   refine Yq (dCutL (by assumption) (by omega)) ?_
   simp only [F.tree, doT, frT, xA, xC, xT, xO, xS, yI, yR, zI, zR, xI, xR, yB, bne, cond_true, cond_false, Bool.not_true, Bool.not_false, Option.bind_assoc, Option.bind_some, zB]
   repeat' (first|(with_reducible first|refine Yd (by assumption) fun z hz =>?_|refine Yv ?_|refine Yg (by (refine decide_eq_true ?_; simp only [List.length_cons, List.length_nil, List.length_append]; omega)) ?_|refine Yc (fun _ =>?_) fun _ =>?_|refine Yl (by assumption) fun z hz =>?_|refine Ya (by assumption) fun z hz hl =>?_|refine Yq (pWi _ _ (by simp; omega) (Nat.le_trans (Dead.held (by assumption)) (by decide))) ?_|refine Yw (by assumption) ?_|refine Yq (pSp _ (by first | assumption | omega | simp)) ?_|refine Yq (pSe _ (by first | assumption | omega | simp)) ?_)|(refine Ys ?_; assumption)|(refine Ys ⟨by assumption, ?_⟩; simp; omega))
theorem pCut_sim {o : Opn} : Sim (((cutTr o.a c got []).bind finTr).exec got d) (pCutN (((), o, ()), ps c got [] true r d)) (Ov c got ()) (DD c got) := by
 show Sim _ (pCutB pWithinN pFailedN pLoadN pStoreN pFieldN pRetireN pEdgeN pLatchN pFreeN pLeaveN pUnlinkN pCutL0N o c got [] true r d) _ _
 unfold pCutB cutTr cutF cutB cutL0F
 dsimp only [F.tree, doT, frT]
 rw [show got.length + 10 = (got.length + 9) + 1 from rfl]
 simp only [F.tree, doT, frT, xA, xC, xT, xO, xS, yI, yR, zI, zR, xI, xR, yB, bne, cond_true, cond_false, Bool.not_true, Bool.not_false, Option.bind_assoc, Option.bind_some, zB]
 rw [loopS]
 simp only [cutL0Step, cutL0B]
 simp only [F.tree, doT, frT, xA, xC, xT, xO, xS, yI, yR, zI, zR, xI, xR, yB, bne, cond_true, cond_false, Bool.not_true, Bool.not_false, Option.bind_assoc, Option.bind_some, zB]
 simp only [List.isEmpty_nil, Bool.not_true, cond_false, show freeTr [] = .ret () from rfl]
 simp only [F.tree, doT, frT, xA, xC, xT, xO, xS, yI, yR, zI, zR, xI, xR, yB, bne, cond_true, cond_false, Bool.not_true, Bool.not_false, Option.bind_assoc, Option.bind_some, zB]
 repeat' (first|(with_reducible first|refine Yd (by assumption) fun z hz =>?_|refine Yv ?_|refine Yg (by (refine decide_eq_true ?_; simp only [List.length_cons, List.length_nil, List.length_append]; omega)) ?_|refine Yc (fun _ =>?_) fun _ =>?_|refine Zs (fun x d hd =>?_) fun d z hz =>?_|refine Zv ?_|refine Zc (fun _ =>?_) fun _ =>?_|refine Zl (fun d =>?_) fun d z hz =>?_|exact Ze|refine Zk (fun d =>?_) fun d z hz =>?_|refine Zf (fun d =>?_) fun d z hz =>?_|refine Za (by assumption) (fun l d hl =>?_) (fun d z hz hl =>?_)|refine Zq (pWi _ _ (by simp; omega) (by simp; omega)) ?_|refine Zw ?_|refine Zq (pSp _ (by omega)) ?_|refine Zq (pSe _ (by omega)) ?_|refine Zt ?_|refine Zu ?_|refine Zn (fun _ =>?_) fun _ =>?_|refine Zo (fun _ =>?_) fun _ =>?_|refine Zg fun _ =>?_|exact Zb|refine Yl (by assumption) fun z hz =>?_|refine Ya (by assumption) fun z hz hl =>?_|refine Yq (pWi _ _ (by simp; omega) (Nat.le_trans (Dead.held (by assumption)) (by decide))) ?_|refine Yw (by assumption) ?_|refine Yq (pSp _ (by first | assumption | omega | simp)) ?_|refine Yq (pSe _ (by first | assumption | omega | simp)) ?_)|(refine Zr ?_;first|exact rfl|exact ⟨rfl, rfl⟩|exact ⟨rfl, by simp; omega⟩)|(refine Ys ?_; assumption)|(refine Ys ⟨by assumption, ?_⟩; simp; omega))
 ·exact pCutL_sim (c := c) (got := got) (r := r) (o := o) (got.length + 9) _ _ _ _ FU (by have := hg.h; unfold FU; omega)
 all_goals
  refine Yq (dCutL (by assumption) FU0) ?_
  simp only [F.tree, doT, frT, xA, xC, xT, xO, xS, yI, yR, zI, zR, xI, xR, yB, bne, cond_true, cond_false, Bool.not_true, Bool.not_false, Option.bind_assoc, Option.bind_some, zB]
  repeat' (first|(with_reducible first|refine Yd (by assumption) fun z hz =>?_|refine Yv ?_|refine Yg (by (refine decide_eq_true ?_; simp only [List.length_cons, List.length_nil, List.length_append]; omega)) ?_|refine Yc (fun _ =>?_) fun _ =>?_|refine Yl (by assumption) fun z hz =>?_|refine Ya (by assumption) fun z hz hl =>?_|refine Yq (pWi _ _ (by simp; omega) (Nat.le_trans (Dead.held (by assumption)) (by decide))) ?_|refine Yw (by assumption) ?_|refine Yq (pSp _ (by first | assumption | omega | simp)) ?_|refine Yq (pSe _ (by first | assumption | omega | simp)) ?_)|(refine Ys ?_; assumption)|(refine Ys ⟨by assumption, ?_⟩; simp; omega))
end
section
variable {c : Cfg} {got h : List Int} [hg : Bd got] [hh : Bd h] {r : Res} {d : List Acc}
omit hg hh in
theorem dAroundL0 {z : pAroundL0E.X} (hz : Dead c got d (z.2.1, z.2.2.1, ())) (hl : z.2.2.2.1.length ≤ 900003) {m : Nat} (hm : 1 < m) : ∃ l : List Int, l.length ≤ z.2.2.2.1.length + 1 ∧ loopF (pAroundL0E.un (pAroundL0B pFieldN)) m z = some (((), z.1.2.1, (), ()), z.2.1, z.2.2.1, l, ()) := by
 obtain ⟨⟨_, a, _, x, _⟩, p, dd, l, _⟩ := z
 obtain ⟨h, r, hh, e⟩ := hz
 cases e
 dsimp only at hl
 obtain ⟨m, rfl⟩ : ∃ k, m = k + 2 := ⟨m - 2, by omega⟩
 have e0 : ∀ (l : List Int), pAroundL0B pFieldN a 0 c got h false r dd l = some (Sum.inr (((), a, (), ()), (c, got, (), h, false, r, ()), dd, l, ())) := fun l => rfl
 by_cases hx : x = 0
 ·subst hx
  refine ⟨l, Nat.le_succ _, ?_⟩
  rw [loopF]
  show (pAroundL0B pFieldN a 0 c got h false r dd l).bind _ = _
  rw [e0]
  rfl
 ·refine ⟨l ++ [0], by simp, ?_⟩
  have e1 : pAroundL0B pFieldN a x c got h false r dd l = some (Sum.inl (((), a, (), 0, ()), (c, got, (), h, false, r, ()), dd, l ++ [0], ())) := by
   unfold pAroundL0B
   rw [show (x != 0) = true by simpa using hx]
   show (bif decide (l.length + 1 ≤ 1000000000) then _ else none) = _
   rw [decide_eq_true (by omega)]
   rfl
  rw [loopF]
  show (pAroundL0B pFieldN a x c got h false r dd l).bind _ = _
  rw [e1]
  rw [Option.bind_some]
  dsimp only
  rw [loopF]
  show (pAroundL0B pFieldN a 0 c got h false r dd (l ++ [0])).bind _ = _
  rw [e0]
  rfl
omit hg hh in
theorem dAroundL1 {z : pAroundL1E.X} (hz : Dead c got d (z.2.1, z.2.2.1, ())) (hl : z.2.2.2.1.length ≤ 900003) {m : Nat} (hm : 1 < m) : ∃ l : List Int, l.length ≤ z.2.2.2.1.length + 1 ∧ loopF (pAroundL1E.un (pAroundL1B pFieldN)) m z = some (((), ()), z.2.1, z.2.2.1, l, ()) := by
 obtain ⟨⟨_, _, x, _⟩, p, dd, l, _⟩ := z
 obtain ⟨h, r, hh, e⟩ := hz
 cases e
 dsimp only at hl
 obtain ⟨m, rfl⟩ : ∃ k, m = k + 2 := ⟨m - 2, by omega⟩
 have e0 : ∀ (l : List Int), pAroundL1B pFieldN 0 c got h false r dd l = some (Sum.inr (((), ()), (c, got, (), h, false, r, ()), dd, l, ())) := fun l => rfl
 by_cases hx : x = 0
 ·subst hx
  refine ⟨l, Nat.le_succ _, ?_⟩
  rw [loopF]
  show (pAroundL1B pFieldN 0 c got h false r dd l).bind _ = _
  rw [e0]
  rfl
 ·refine ⟨l ++ [0], by simp, ?_⟩
  have e1 : pAroundL1B pFieldN x c got h false r dd l = some (Sum.inl (((), (), 0, ()), (c, got, (), h, false, r, ()), dd, l ++ [0], ())) := by
   unfold pAroundL1B
   rw [show (x != 0) = true by simpa using hx]
   show (bif decide (l.length + 1 ≤ 1000000000) then _ else none) = _
   rw [decide_eq_true (by omega)]
   rfl
  rw [loopF]
  show (pAroundL1B pFieldN x c got h false r dd l).bind _ = _
  rw [e1]
  rw [Option.bind_some]
  dsimp only
  rw [loopF]
  show (pAroundL1B pFieldN 0 c got h false r dd (l ++ [0])).bind _ = _
  rw [e0]
  rfl
abbrev DR {V : Type} (c : Cfg) (got : List Int) (n : Nat) (d : List Acc) (z : V × OShL PO4) : Prop := Dead c got d (z.2.1, z.2.2.1, ()) ∧ z.2.2.2.1.length ≤ n
theorem FU1 : 1 < FU := by unfold FU; omega
omit hg hh in
theorem dAround {x : Int} {s : PS} (hs : Dead c got d s) : Gets (pAroundN (((), x, ()), s)) (DR c got 900003 d) := by
 show Gets (pAroundB pFieldN pAroundL0N pAroundL1N _ _ _ _ _ _ _) _
 unfold pAroundB
 repeat' (first|(with_reducible first|refine Yd (by assumption) fun z hz =>?_|refine Yv ?_|refine Yg (by (refine decide_eq_true ?_; simp only [List.length_cons, List.length_nil, List.length_append]; omega)) ?_|refine Yc (fun _ =>?_) fun _ =>?_|refine Yl (by assumption) fun z hz =>?_|refine Ya (by assumption) fun z hz hl =>?_|refine Yq (pWi _ _ (by simp; omega) (Nat.le_trans (Dead.held (by assumption)) (by decide))) ?_|refine Yw (by assumption) ?_|refine Yq (pSp _ (by first | assumption | omega | simp)) ?_|refine Yq (pSe _ (by first | assumption | omega | simp)) ?_)|(refine Ys ?_; assumption)|(refine Ys ⟨by assumption, ?_⟩; simp; omega))
 obtain ⟨l, h1, h2⟩ := dAroundL0 (c := c) (got := got) (d := d) (z := (((), (((), x, ()), s).1.2.1, (), z.1.1, ()), z.2.1, z.2.2.1, [], ())) hz (by simp) FU1
 refine Yq h2 ?_
 repeat' (first|(with_reducible first|refine Yd (by assumption) fun z hz =>?_|refine Yv ?_|refine Yg (by (refine decide_eq_true ?_; simp only [List.length_cons, List.length_nil, List.length_append]; omega)) ?_|refine Yc (fun _ =>?_) fun _ =>?_|refine Yl (by assumption) fun z hz =>?_|refine Ya (by assumption) fun z hz hl =>?_|refine Yq (pWi _ _ (by simp; omega) (Nat.le_trans (Dead.held (by assumption)) (by decide))) ?_|refine Yw (by assumption) ?_|refine Yq (pSp _ (by first | assumption | omega | simp)) ?_|refine Yq (pSe _ (by first | assumption | omega | simp)) ?_)|(refine Ys ?_; assumption)|(refine Ys ⟨by assumption, ?_⟩; simp; omega))
 obtain ⟨l', h3, h4⟩ := dAroundL1 (c := c) (got := got) (d := d) (z := (((), (), z.1.1, ()), z.2.1, z.2.2.1, l, ())) hz (by dsimp at h1 ⊢; omega) FU1
 refine Yq h4 ?_
 refine Ys ⟨hz, ?_⟩
 dsimp at h1 h3 ⊢
 omega
theorem pAround_sim (hgot : got.length ≤ 900000) {xr : Int} : Sim ((aroundTr 1 xr c got h).exec got d) (pAroundN (((), xr, ()), ps c got h true r d)) (fun l d' z => z = (((), ()), (c, got, (), h, true, r, ()), d', l, ()) ∧ l.length ≤ d'.length ∧ d'.length ≤ got.length) (DR c got 900003) := by
 show Sim _ (pAroundB pFieldN pAroundL0N pAroundL1N xr c got h true r d) _ _
 unfold pAroundB aroundTr aroundF aroundB eachAF eachAB eachAL0F
 simp only [F.tree, doT, frT, xA, xC, xT, xO, xS, yI, yR, zI, zR, xI, xR, yB, bne, cond_true, cond_false, Bool.not_true, Bool.not_false, Option.bind_assoc, Option.bind_some, zB]
 repeat' (first|(with_reducible first|refine Yd (by assumption) fun z hz =>?_|refine Yv ?_|refine Yg (by (refine decide_eq_true ?_; simp only [List.length_cons, List.length_nil, List.length_append]; omega)) ?_|refine Yc (fun _ =>?_) fun _ =>?_|refine Zs (fun x d hd =>?_) fun d z hz =>?_|refine Zv ?_|refine Zc (fun _ =>?_) fun _ =>?_|refine Zl (fun d =>?_) fun d z hz =>?_|exact Ze|refine Zk (fun d =>?_) fun d z hz =>?_|refine Zf (fun d =>?_) fun d z hz =>?_|refine Za (by assumption) (fun l d hl =>?_) (fun d z hz hl =>?_)|refine Zq (pWi _ _ (by simp; omega) (by simp; omega)) ?_|refine Zw ?_|refine Zq (pSp _ (by omega)) ?_|refine Zq (pSe _ (by omega)) ?_|refine Zt ?_|refine Zu ?_|refine Zn (fun _ =>?_) fun _ =>?_|refine Zo (fun _ =>?_) fun _ =>?_|refine Zg fun _ =>?_|exact Zb|refine Yl (by assumption) fun z hz =>?_|refine Ya (by assumption) fun z hz hl =>?_|refine Yq (pWi _ _ (by simp; omega) (Nat.le_trans (Dead.held (by assumption)) (by decide))) ?_|refine Yw (by assumption) ?_|refine Yq (pSp _ (by first | assumption | omega | simp)) ?_|refine Yq (pSe _ (by first | assumption | omega | simp)) ?_)|(refine Zr ?_;first|exact rfl|exact ⟨rfl, rfl⟩|exact ⟨rfl, by simp; omega⟩)|(refine Ys ?_; assumption)|(refine Ys ⟨by assumption, ?_⟩; simp; omega))
 ·refine Sim.loopK (fun st d z => z = (((), xr, (), st.2, ()), (c, got, (), h, true, r, ()), d, st.1, ()) ∧ st.1.length ≤ d.length ∧ d.length ≤ got.length) (fun d z => Dead c got d (z.2.1, z.2.2.1, ()) ∧ z.2.2.2.1.length ≤ 900001) 2 (by unfold FU; omega) ⟨rfl, by simp; omega⟩ (fun d z hz =>?_) ?_
  ·obtain ⟨l, h1, h2⟩ := dAroundL0 hz.1 (by omega) (show 1 < 2 by decide)
   obtain ⟨hz, hl⟩ := hz
   refine Yq h2 ?_
   repeat' (first|(with_reducible first|refine Yd (by assumption) fun z hz =>?_|refine Yv ?_|refine Yg (by (refine decide_eq_true ?_; simp only [List.length_cons, List.length_nil, List.length_append]; omega)) ?_|refine Yc (fun _ =>?_) fun _ =>?_|refine Yl (by assumption) fun z hz =>?_|refine Ya (by assumption) fun z hz hl =>?_|refine Yq (pWi _ _ (by simp; omega) (Nat.le_trans (Dead.held (by assumption)) (by decide))) ?_|refine Yw (by assumption) ?_|refine Yq (pSp _ (by first | assumption | omega | simp)) ?_|refine Yq (pSe _ (by first | assumption | omega | simp)) ?_)|(refine Ys ?_; assumption)|(refine Ys ⟨by assumption, ?_⟩; simp; omega))
   obtain ⟨l', h3, h4⟩ := dAroundL1 (c := c) (got := got) (d := d) (z := (((), (), z.1.1, ()), z.2.1, z.2.2.1, l, ())) hz (by dsimp; omega) FU1
   refine Yq h4 ?_
   refine Ys ⟨hz, ?_⟩
   dsimp at h3 ⊢
   omega
  ·rintro ⟨l, y⟩ d z ⟨rfl, hl, hd⟩
   show Sim _ ((pAroundL0B pFieldN xr y c got h true r d l).bind _) _ _
   dsimp only at hl hd
   unfold pAroundL0B eachAL0Step eachAL0B aroundCF aroundCB
   simp only [F.tree, doT, frT, xA, xC, xT, xO, xS, yI, yR, zI, zR, xI, xR, yB, bne, cond_true, cond_false, Bool.not_true, Bool.not_false, Option.bind_assoc, Option.bind_some, zB]
   repeat' (first|(with_reducible first|refine Yd (by assumption) fun z hz =>?_|refine Yv ?_|refine Yg (by (refine decide_eq_true ?_; simp only [List.length_cons, List.length_nil, List.length_append]; omega)) ?_|refine Yc (fun _ =>?_) fun _ =>?_|refine Zs (fun x d hd =>?_) fun d z hz =>?_|refine Zv ?_|refine Zc (fun _ =>?_) fun _ =>?_|refine Zl (fun d =>?_) fun d z hz =>?_|exact Ze|refine Zk (fun d =>?_) fun d z hz =>?_|refine Zf (fun d =>?_) fun d z hz =>?_|refine Za (by assumption) (fun l d hl =>?_) (fun d z hz hl =>?_)|refine Zq (pWi _ _ (by simp; omega) (by simp; omega)) ?_|refine Zw ?_|refine Zq (pSp _ (by omega)) ?_|refine Zq (pSe _ (by omega)) ?_|refine Zt ?_|refine Zu ?_|refine Zn (fun _ =>?_) fun _ =>?_|refine Zo (fun _ =>?_) fun _ =>?_|refine Zg fun _ =>?_|exact Zb|refine Yl (by assumption) fun z hz =>?_|refine Ya (by assumption) fun z hz hl =>?_|refine Yq (pWi _ _ (by simp; omega) (Nat.le_trans (Dead.held (by assumption)) (by decide))) ?_|refine Yw (by assumption) ?_|refine Yq (pSp _ (by first | assumption | omega | simp)) ?_|refine Yq (pSe _ (by first | assumption | omega | simp)) ?_)|(refine Zr ?_;first|exact rfl|exact ⟨rfl, rfl⟩|exact ⟨rfl, by simp; omega⟩)|(refine Ys ?_; assumption)|(refine Ys ⟨by assumption, ?_⟩; simp; omega))
   ·refine Sim.loopK (fun st d z => z = (((), (), st.2, ()), (c, got, (), h, true, r, ()), d, st.1, ()) ∧ st.1.length ≤ d.length ∧ d.length ≤ got.length) (fun d z => Dead c got d (z.2.1, z.2.2.1, ()) ∧ z.2.2.2.1.length ≤ 900001) 2 (by unfold FU; omega) ⟨rfl, by dsimp only; omega⟩ (fun d z hz =>?_) ?_
    ·obtain ⟨l, h1, h2⟩ := dAroundL1 hz.1 (by omega) (show 1 < 2 by decide)
     obtain ⟨hz, hl⟩ := hz
     refine Yq h2 ?_
     refine Ys ?_
     exact ⟨hz, by dsimp at h1 ⊢; omega⟩
    ·rintro ⟨l, y⟩ d z ⟨rfl, hl, hd⟩
     show Sim _ ((pAroundL1B pFieldN y c got h true r d l).bind _) _ _
     dsimp only at hl hd
     unfold pAroundL1B
     simp only [F.tree, doT, frT, xA, xC, xT, xO, xS, yI, yR, zI, zR, xI, xR, yB, bne, cond_true, cond_false, Bool.not_true, Bool.not_false, Option.bind_assoc, Option.bind_some, zB]
     repeat' (first|(with_reducible first|refine Yd (by assumption) fun z hz =>?_|refine Yv ?_|refine Yg (by (refine decide_eq_true ?_; simp only [List.length_cons, List.length_nil, List.length_append]; omega)) ?_|refine Yc (fun _ =>?_) fun _ =>?_|refine Zs (fun x d hd =>?_) fun d z hz =>?_|refine Zv ?_|refine Zc (fun _ =>?_) fun _ =>?_|refine Zl (fun d =>?_) fun d z hz =>?_|exact Ze|refine Zk (fun d =>?_) fun d z hz =>?_|refine Zf (fun d =>?_) fun d z hz =>?_|refine Za (by assumption) (fun l d hl =>?_) (fun d z hz hl =>?_)|refine Zq (pWi _ _ (by simp; omega) (by simp; omega)) ?_|refine Zw ?_|refine Zq (pSp _ (by omega)) ?_|refine Zq (pSe _ (by omega)) ?_|refine Zt ?_|refine Zu ?_|refine Zn (fun _ =>?_) fun _ =>?_|refine Zo (fun _ =>?_) fun _ =>?_|refine Zg fun _ =>?_|exact Zb|refine Yl (by assumption) fun z hz =>?_|refine Ya (by assumption) fun z hz hl =>?_|refine Yq (pWi _ _ (by simp; omega) (Nat.le_trans (Dead.held (by assumption)) (by decide))) ?_|refine Yw (by assumption) ?_|refine Yq (pSp _ (by first | assumption | omega | simp)) ?_|refine Yq (pSe _ (by first | assumption | omega | simp)) ?_)|(refine Zr ?_;first|exact rfl|exact ⟨rfl, rfl⟩|exact ⟨rfl, by simp; omega⟩)|(refine Ys ?_; assumption)|(refine Ys ⟨by assumption, ?_⟩; simp; omega))
     exact Zr ⟨rfl, hl, hd⟩
   ·obtain ⟨l', h3, h4⟩ := dAroundL1 (c := c) (got := got) (d := d) (z := (((), (), z.1.1, ()), z.2.1, z.2.2.1, l, ())) hz (by dsimp; omega) FU1
    refine Yq h4 ?_
    refine Ys ?_
    exact ⟨hz, by dsimp at h3 ⊢; omega⟩
 ·obtain ⟨l, h1, h2⟩ := dAroundL0 (c := c) (got := got) (d := d) (z := (((), xr, (), z.1.1, ()), z.2.1, z.2.2.1, [], ())) hz (by simp) FU1
  refine Yq h2 ?_
  repeat' (first|(with_reducible first|refine Yd (by assumption) fun z hz =>?_|refine Yv ?_|refine Yg (by (refine decide_eq_true ?_; simp only [List.length_cons, List.length_nil, List.length_append]; omega)) ?_|refine Yc (fun _ =>?_) fun _ =>?_|refine Yl (by assumption) fun z hz =>?_|refine Ya (by assumption) fun z hz hl =>?_|refine Yq (pWi _ _ (by simp; omega) (Nat.le_trans (Dead.held (by assumption)) (by decide))) ?_|refine Yw (by assumption) ?_|refine Yq (pSp _ (by first | assumption | omega | simp)) ?_|refine Yq (pSe _ (by first | assumption | omega | simp)) ?_)|(refine Ys ?_; assumption)|(refine Ys ⟨by assumption, ?_⟩; simp; omega))
  obtain ⟨l', h3, h4⟩ := dAroundL1 (c := c) (got := got) (d := d) (z := (((), (), z.1.1, ()), z.2.1, z.2.2.1, l, ())) hz (by dsimp at h1 ⊢; omega) FU1
  refine Yq h4 ?_
  refine Ys ⟨hz, ?_⟩
  dsimp at h1 h3 ⊢
  omega
theorem Za (hgot : got.length ≤ 900000) {xr : Int} {α Y : Type} {k : List Int → T α} {F : VhL [.s (.own 2)] × OShL PO4 → Option Y} {L : α → List Acc → Y → Prop} {D : List Acc → Y → Prop}
  (hk : ∀ l d', l.length ≤ got.length → Sim ((k l).exec got d') (F (((), ()), (c, got, (), h, true, r, ()), d', l, ())) L D) (hd : ∀ d' z, Dead c got d' (z.2.1, z.2.2.1, ()) → z.2.2.2.1.length ≤ 900003 → Gets (F z) (D d')) : Sim (((aroundTr 1 xr c got h).bind k).exec got d) ((pAroundN (((), xr, ()), ps c got h true r d)).bind F) L D :=
 Sim.bind (pAround_sim hgot) (fun l d' z hz => by obtain ⟨rfl, h1, h2⟩ := hz; exact hk l d' (by omega)) (fun d z hz => hd d z hz.1 hz.2)
omit hg hh in
theorem Ya {x : Int} {s : PS} {Y : Type} {F : VhL [.s (.own 2)] × OShL PO4 → Option Y} {D : Y → Prop} (hs : Dead c got d s) (hF : ∀ z, Dead c got d (z.2.1, z.2.2.1, ()) → z.2.2.2.1.length ≤ 900003 → Gets (F z) D) : Gets ((pAroundN (((), x, ()), s)).bind F) D := Gets.bind (dAround hs) fun z hz => hF z hz.1 hz.2
end
noncomputable abbrev pDropL3E : Le := ⟨2, Tryz.f37, 3, [0, 4, 14], [pm, vi, vi], PO, (Fin.one 2 Tryz.f37.ntmps (.exit 6) [0, 4] [pm, vi] PO)⟩
noncomputable def pDropL3B (p0 : pFieldE.T) (p1 : pRetireE.T) (v1 v2 : Int) (c : Cfg) (got held : List Int) (ok : Bool) (r : Res) (dd : List Acc) : Option (pDropL3E.X ⊕ pDropL3E.fin.Y) := bif v2 != 0 then bif ok then (p0 (((), 3, v2, 2, ()), ps c got held ok r dd)).bind fun z => (p1 (((), 3, v2, ()), z.2.1, z.2.2.1, ())).bind fun z1 => some (Sum.inl (((), v1, z.1.1, ()), z1.2.1, z1.2.2.1, ())) else some (Sum.inr (((), v1, ()), ps c got held ok r dd)) else some (Sum.inr (((), v1, ()), ps c got held ok r dd))
noncomputable def pDropL3N : pDropL3E.T := pDropL3E.lp (pDropL3E.un (pDropL3B pFieldN pRetireN))
theorem pDropL3_raw (p0 : pFieldE.T) (p1 : pRetireE.T) (x) : pDropL3E.run [pFieldE.on p0, pRetireE.on p1] [] [] x = pDropL3E.un (pDropL3B p0 p1) x := by kernel_rfl
theorem pDropL3_ok : pDropL3E.Ok pDropL3N := Le.k f1 (pField_ok.k (pRetire_ok.k g0)) (noloopN (by kernel_rfl)) (pDropL3_raw pFieldN pRetireN)
noncomputable abbrev pDropL2E : Le := ⟨2, Tryz.f37, 2, [0, 3, 4, 10], [pm, .s (.ptr 2 0), vi, vi], PO2, (Fin.one 2 Tryz.f37.ntmps (.exit 4) [0, 4] [pm, vi] PO)⟩
noncomputable def pDropL2B (p0 : pStoreE.T) (p1 : pFieldE.T) (p2 : pRetireE.T) (p3 : pEdgeE.T) (p4 : pUnlinkE.T) (v2 v3 : Int) (c : Cfg) (got held : List Int) (ok : Bool) (r : Res) (dd : List Acc) (v11 : Opn) : Option (pDropL2E.X ⊕ pDropL2E.fin.Y) := bif v3 != 0 then bif ok then (p1 (((), 2, v3, 1, ()), ps c got held ok r dd)).bind fun z => (p1 (((), 2, v3, 4, ()), z.2.1, z.2.2.1, ())).bind fun z1 => bif z.1.1 != v11.a then (p1 (((), 2, v3, 0, ()), z1.2.1, z1.2.2.1, ())).bind fun z2 => (p4 (((), 1, 3, z.1.1, v3, ()), z2.2.1, z2.2.2.1, ())).bind fun z => (p3 (((), z2.1.1, ()), z.2.1, z.2.2.1, ())).bind fun z => (p0 (((), z.1.1, 0, ()), z.2.1, z.2.2.1, ())).bind fun z => (p2 (((), 2, v3, ()), z.2.1, z.2.2.1, ())).bind fun z => some (Sum.inl (((), (), v2, z1.1.1, ()), z.2.1, z.2.2.1, (v11, ()), ())) else some (Sum.inl (((), (), v2, z1.1.1, ()), z1.2.1, z1.2.2.1, (v11, ()), ())) else some (Sum.inr (((), v2, ()), ps c got held ok r dd)) else some (Sum.inr (((), v2, ()), ps c got held ok r dd))
noncomputable def pDropL2N : pDropL2E.T := pDropL2E.lp (pDropL2E.un (pDropL2B pStoreN pFieldN pRetireN pEdgeN pUnlinkN))
theorem pDropL2_raw (p0 : pStoreE.T) (p1 : pFieldE.T) (p2 : pRetireE.T) (p3 : pEdgeE.T) (p4 : pUnlinkE.T) (x) : pDropL2E.run [pStoreE.on p0, pFieldE.on p1, pRetireE.on p2, pEdgeE.on p3, pUnlinkE.on p4] [] [] x = pDropL2E.un (pDropL2B p0 p1 p2 p3 p4) x := by kernel_rfl
theorem pDropL2_ok : pDropL2E.Ok pDropL2N := Le.k f1 (pStore_ok.k (pField_ok.k (pRetire_ok.k (pEdge_ok.k (pUnlink_ok.k g0))))) (noloopN (by kernel_rfl)) (pDropL2_raw pStoreN pFieldN pRetireN pEdgeN pUnlinkN)
noncomputable abbrev pDropL1E : Le := ⟨2, Tryz.f37, 1, [0, 3, 4, 6], [pm, .s (.ptr 2 0), vi, vi], PO2, (Fin.one 2 Tryz.f37.ntmps (.exit 2) [0, 3, 4] [pm, .s (.ptr 2 0), vi] PO2)⟩
noncomputable def pDropL1B (p0 : pStoreE.T) (p1 : pFieldE.T) (p2 : pRetireE.T) (p3 : pEdgeE.T) (p4 : pUnlinkE.T) (v2 v3 : Int) (c : Cfg) (got held : List Int) (ok : Bool) (r : Res) (dd : List Acc) (v11 : Opn) : Option (pDropL1E.X ⊕ pDropL1E.fin.Y) := bif v3 != 0 then bif ok then (p1 (((), 2, v3, 0, ()), ps c got held ok r dd)).bind fun z => (p1 (((), 2, v3, 2, ()), z.2.1, z.2.2.1, ())).bind fun z1 => (p1 (((), 2, v3, 3, ()), z1.2.1, z1.2.2.1, ())).bind fun z2 => bif z1.1.1 != v11.a then (p4 (((), 2, 4, z1.1.1, v3, ()), z2.2.1, z2.2.2.1, ())).bind fun z3 => (p3 (((), z.1.1, ()), z3.2.1, z3.2.2.1, ())).bind fun z => (p0 (((), z.1.1, 0, ()), z.2.1, z.2.2.1, ())).bind fun z => (p2 (((), 2, v3, ()), z.2.1, z.2.2.1, ())).bind fun z => some (Sum.inl (((), (), v2, z2.1.1, ()), z.2.1, z.2.2.1, (v11, ()), ())) else (p3 (((), z.1.1, ()), z2.2.1, z2.2.2.1, ())).bind fun z => (p0 (((), z.1.1, 0, ()), z.2.1, z.2.2.1, ())).bind fun z => (p2 (((), 2, v3, ()), z.2.1, z.2.2.1, ())).bind fun z => some (Sum.inl (((), (), v2, z2.1.1, ()), z.2.1, z.2.2.1, (v11, ()), ())) else some (Sum.inr (((), (), v2, ()), (c, got, (), held, ok, r, ()), dd, (v11, ()), ())) else some (Sum.inr (((), (), v2, ()), (c, got, (), held, ok, r, ()), dd, (v11, ()), ()))
noncomputable def pDropL1N : pDropL1E.T := pDropL1E.lp (pDropL1E.un (pDropL1B pStoreN pFieldN pRetireN pEdgeN pUnlinkN))
theorem pDropL1_raw (p0 : pStoreE.T) (p1 : pFieldE.T) (p2 : pRetireE.T) (p3 : pEdgeE.T) (p4 : pUnlinkE.T) (x) : pDropL1E.run [pStoreE.on p0, pFieldE.on p1, pRetireE.on p2, pEdgeE.on p3, pUnlinkE.on p4] [] [] x = pDropL1E.un (pDropL1B p0 p1 p2 p3 p4) x := by kernel_rfl
theorem pDropL1_ok : pDropL1E.Ok pDropL1N := Le.k f1 (pStore_ok.k (pField_ok.k (pRetire_ok.k (pEdge_ok.k (pUnlink_ok.k g0))))) (noloopN (by kernel_rfl)) (pDropL1_raw pStoreN pFieldN pRetireN pEdgeN pUnlinkN)
noncomputable abbrev pDropL0E : Le := ⟨2, Tryz.f37, 0, [0, 3, 4, 5], [pm, .s (.ptr 2 0), vi, .s (.own 3)], PO3, ((Fin.one 2 Tryz.f37.ntmps (.exit 0) [0, 3, 4] [pm, .s (.ptr 2 0), vi] PO2).or (Fin.one 2 Tryz.f37.ntmps .ret [] [] PO))⟩
noncomputable def pDropL0B (p0 : pWithinE.T) (p1 : pFailedE.T) (p2 : pDirE.T) (p3 : pLoadE.T) (p4 : pLatchE.T) (p5 : pFreeE.T) (p6 : pLeaveE.T) (p7 : pAroundE.T) (v2 : Int) (c : Cfg) (got held : List Int) (ok : Bool) (r : Res) (dd : List Acc) (v11 : Opn) (v12 : List Int) : Option (pDropL0E.X ⊕ pDropL0E.fin.Y) := bif ok then (p4 (((), v12, ()), ps c got held ok r dd)).bind fun z => (p2 ((v11.a, ()), ())).bind fun z1 => (p3 (((), z1.1.1, ()), z.2.1, z.2.2.1, ())).bind fun z => bif z.1.1 == 0 then (p1 ((2, ()), ())).bind fun z2 => (p6 (((), z2.1.1, ()), z.2.1, z.2.2.1, ())).bind fun z => some (Sum.inr (Sum.inr ((), z.2.1, z.2.2.1, ()))) else (p7 (((), z.1.1, ()), z.2.1, z.2.2.1, ())).bind fun z2 => bif decide (List.length z2.2.2.2.1 + [v11.a].length ≤ 1000000000) then (p0 ((z2.2.2.2.1 ++ [v11.a], z2.2.1.2.2.2.1, ()), ())).bind fun z3 => bif z3.1.1 then some (Sum.inr (Sum.inl (((), (), z.1.1, ()), z2.2.1, z2.2.2.1, (v11, ()), ()))) else (p5 (((), ()), z2.2.1, z2.2.2.1, ())).bind fun z4 => some (Sum.inl (((), (), z.1.1, (), ()), z4.2.1, z4.2.2.1, (v11, ()), z2.2.2.2.1 ++ [v11.a], ())) else none else some (Sum.inr (Sum.inl (((), (), v2, ()), (c, got, (), held, ok, r, ()), dd, (v11, ()), ())))
noncomputable def pDropL0N : pDropL0E.T := pDropL0E.lp (pDropL0E.un (pDropL0B pWithinN pFailedN pDirN pLoadN pLatchN pFreeN pLeaveN pAroundN))
theorem pDropL0_raw (p0 : pWithinE.T) (p1 : pFailedE.T) (p2 : pDirE.T) (p3 : pLoadE.T) (p4 : pLatchE.T) (p5 : pFreeE.T) (p6 : pLeaveE.T) (p7 : pAroundE.T) (x) : pDropL0E.run [pWithinE.on p0, pFailedE.on p1, pDirE.on p2, pLoadE.on p3, pLatchE.on p4, pFreeE.on p5, pLeaveE.on p6, pAroundE.on p7] [] [] x = pDropL0E.un (pDropL0B p0 p1 p2 p3 p4 p5 p6 p7) x := by kernel_rfl
theorem pDropL0_ok : pDropL0E.Ok pDropL0N := Le.k (fo f1 f1) (pWithin_ok.k (pFailed_ok.k (pDir_ok.k (pLoad_ok.k (pLatch_ok.k (pFree_ok.k (pLeave_ok.k (pAround_ok.k g0)))))))) (noloopN (by kernel_rfl)) (pDropL0_raw pWithinN pFailedN pDirN pLoadN pLatchN pFreeN pLeaveN pAroundN)
noncomputable abbrev pDropE : Fe := ⟨37, Tryz.f37, [pm, .s (.e (.st .opn))], PO, [], PO⟩
noncomputable def pDropB (p0 : pWithinE.T) (p1 : pFailedE.T) (p2 : pDirE.T) (p3 : pLoadE.T) (p4 : pStoreE.T) (p5 : pFieldE.T) (p6 : pRetireE.T) (p7 : pEdgeE.T) (p8 : pKnownE.T) (p9 : pLatchE.T) (p10 : pFreeE.T) (p11 : pLeaveE.T) (p12 : pAroundE.T) (p13 : pUnlinkE.T) (p14 : pDropL0E.T) (p15 : pDropL1E.T) (p16 : pDropL2E.T) (p17 : pDropL3E.T) (o : Opn) (c : Cfg) (got held : List Int) (ok : Bool) (r : Res) (dd : List Acc) : Option pDropE.Y := (p8 (((), o.a, ()), ps c got held ok r dd)).bind fun z => bif !z.1.1 then (p1 ((2, ()), ())).bind fun z1 => (p11 (((), z1.1.1, ()), z.2.1, z.2.2.1, ())).bind fun z => some ((), z.2.1, z.2.2.1, ()) else (p2 ((o.a, ()), ())).bind fun z1 => (p3 (((), z1.1.1, ()), z.2.1, z.2.2.1, ())).bind fun z => bif z.1.1 == 0 then (p1 ((2, ()), ())).bind fun z2 => (p11 (((), z2.1.1, ()), z.2.1, z.2.2.1, ())).bind fun z => some ((), z.2.1, z.2.2.1, ()) else (p12 (((), z.1.1, ()), z.2.1, z.2.2.1, ())).bind fun z2 => bif decide (List.length z2.2.2.2.1 + [o.a].length ≤ 1000000000) then (p14 (((), (), z.1.1, (), ()), z2.2.1, z2.2.2.1, (o, ()), z2.2.2.2.1 ++ [o.a], ())).bind fun z => selim z (fun z => (p2 ((z.2.2.2.1.1.a, ()), ())).bind fun z3 => (p4 (((), z3.1.1, 0, ()), z.2.1, z.2.2.1, ())).bind fun z4 => (p5 (((), 1, z.1.2.2.1, 1, ()), z4.2.1, z4.2.2.1, ())).bind fun z5 => (p15 (((), (), z.1.2.2.1, z5.1.1, ()), z5.2.1, z5.2.2.1, (z.2.2.2.1.1, ()), ())).bind fun z => (p5 (((), 1, z.1.2.2.1, 2, ()), z.2.1, z.2.2.1, ())).bind fun z6 => (p16 (((), (), z.1.2.2.1, z6.1.1, ()), z6.2.1, z6.2.2.1, (z.2.2.2.1.1, ()), ())).bind fun z => (p5 (((), 1, z.1.2.1, 3, ()), z.2.1, z.2.2.1, ())).bind fun z7 => (p17 (((), z.1.2.1, z7.1.1, ()), z7.2.1, z7.2.2.1, ())).bind fun z => (p6 (((), 1, z.1.2.1, ()), z.2.1, z.2.2.1, ())).bind fun z => (p11 (((), Res.mk 0 0 [] [] [], ()), z.2.1, z.2.2.1, ())).bind fun z => some ((), z.2.1, z.2.2.1, ())) fun z => some ((), z.2.1, z.2.2.1, ()) else none
noncomputable def pDropN : pDropE.T := pDropE.un (pDropB pWithinN pFailedN pDirN pLoadN pStoreN pFieldN pRetireN pEdgeN pKnownN pLatchN pFreeN pLeaveN pAroundN pUnlinkN pDropL0N pDropL1N pDropL2N pDropL3N)
theorem pDrop_raw (p0 : pWithinE.T) (p1 : pFailedE.T) (p2 : pDirE.T) (p3 : pLoadE.T) (p4 : pStoreE.T) (p5 : pFieldE.T) (p6 : pRetireE.T) (p7 : pEdgeE.T) (p8 : pKnownE.T) (p9 : pLatchE.T) (p10 : pFreeE.T) (p11 : pLeaveE.T) (p12 : pAroundE.T) (p13 : pUnlinkE.T) (p14 : pDropL0E.T) (p15 : pDropL1E.T) (p16 : pDropL2E.T) (p17 : pDropL3E.T) (x) : pDropE.run [pWithinE.on p0, pFailedE.on p1, pDirE.on p2, pLoadE.on p3, pStoreE.on p4, pFieldE.on p5, pRetireE.on p6, pEdgeE.on p7, pKnownE.on p8, pLatchE.on p9, pFreeE.on p10, pLeaveE.on p11, pAroundE.on p12, pUnlinkE.on p13] [(7, pDropL0E.on p14), (17, pDropL1E.on p15), (27, pDropL2E.on p16), (37, pDropL3E.on p17)] [] x = pDropE.un (pDropB p0 p1 p2 p3 p4 p5 p6 p7 p8 p9 p10 p11 p12 p13 p14 p15 p16 p17) x := by kernel_rfl
theorem pDrop_ok : pDropE.Ok pDropN := Fe.k (by kernel_rfl) (pWithin_ok.k (pFailed_ok.k (pDir_ok.k (pLoad_ok.k (pStore_ok.k (pField_ok.k (pRetire_ok.k (pEdge_ok.k (pKnown_ok.k (pLatch_ok.k (pFree_ok.k (pLeave_ok.k (pAround_ok.k (pUnlink_ok.k g0)))))))))))))) (lcok (by kernel_rfl) (lsc (by kernel_rfl) pDropL0_ok rfl (lsc (by kernel_rfl) pDropL1_ok rfl (lsc (by kernel_rfl) pDropL2_ok rfl (lsc (by kernel_rfl) pDropL3_ok rfl lsn))))) (pDrop_raw pWithinN pFailedN pDirN pLoadN pStoreN pFieldN pRetireN pEdgeN pKnownN pLatchN pFreeN pLeaveN pAroundN pUnlinkN pDropL0N pDropL1N pDropL2N pDropL3N)
noncomputable abbrev pFuseL2E : Le := ⟨2, Tryz.f38, 2, [0, 3, 4, 5, 7, 8, 9, 10, 11, 12], [pm, .s (.ptr 2 0), vi, vi, vi, vi, vi, vi, vb, vi], PO2, (Fin.one 2 Tryz.f38.ntmps (.exit 4) [0, 3, 4, 5, 7, 9, 10, 11] [pm, .s (.ptr 2 0), vi, vi, vi, vi, vi, vb] PO2)⟩
noncomputable def pFuseL2B (p0 : pFieldE.T) (v2 v3 v4 v5 v6 v7 : Int) (v8 : Bool) (v9 : Int) (c : Cfg) (got held : List Int) (ok : Bool) (r : Res) (dd : List Acc) (v17 : Opn) : Option (pFuseL2E.X ⊕ pFuseL2E.fin.Y) := bif v9 != 0 then bif ok then bif !v8 then (p0 (((), 3, v9, 0, ()), ps c got held ok r dd)).bind fun z => bif !z.1.1 == v5 then (p0 (((), 3, v9, 2, ()), z.2.1, z.2.2.1, ())).bind fun z1 => some (Sum.inl (((), (), v2, v3, v4, v5, v6, v7, z.1.1 == v5, z1.1.1, ()), z1.2.1, z1.2.2.1, (v17, ()), ())) else some (Sum.inl (((), (), v2, v3, v4, v5, v6, v7, z.1.1 == v5, v9, ()), z.2.1, z.2.2.1, (v17, ()), ())) else some (Sum.inr (((), (), v2, v3, v4, v6, v7, v8, ()), (c, got, (), held, ok, r, ()), dd, (v17, ()), ())) else some (Sum.inr (((), (), v2, v3, v4, v6, v7, v8, ()), (c, got, (), held, ok, r, ()), dd, (v17, ()), ())) else some (Sum.inr (((), (), v2, v3, v4, v6, v7, v8, ()), (c, got, (), held, ok, r, ()), dd, (v17, ()), ()))
noncomputable def pFuseL2N : pFuseL2E.T := pFuseL2E.lp (pFuseL2E.un (pFuseL2B pFieldN))
theorem pFuseL2_raw (p0 : pFieldE.T) (x) : pFuseL2E.run [pFieldE.on p0] [] [] x = pFuseL2E.un (pFuseL2B p0) x := by kernel_rfl
theorem pFuseL2_ok : pFuseL2E.Ok pFuseL2N := Le.k f1 (pField_ok.k g0) (noloopN (by kernel_rfl)) (pFuseL2_raw pFieldN)
noncomputable abbrev pFuseL1E : Le := ⟨2, Tryz.f38, 1, [0, 3, 4, 5, 7], [pm, .s (.ptr 2 0), vi, vi, vi], PO2, (Fin.one 2 Tryz.f38.ntmps (.exit 2) [0, 3, 4] [pm, .s (.ptr 2 0), vi] PO2)⟩
noncomputable def pFuseL1B (p0 : pFieldE.T) (p1 : pPutE.T) (p2 : pRetireE.T) (p3 : pFuseL2E.T) (v2 v3 v4 : Int) (c : Cfg) (got held : List Int) (ok : Bool) (r : Res) (dd : List Acc) (v12 : Opn) : Option (pFuseL1E.X ⊕ pFuseL1E.fin.Y) := bif v4 != 0 then bif ok then (p0 (((), 3, v4, 0, ()), ps c got held ok r dd)).bind fun z => (p0 (((), 3, v4, 2, ()), z.2.1, z.2.2.1, ())).bind fun z1 => (p0 (((), 1, v3, 3, ()), z1.2.1, z1.2.2.1, ())).bind fun z2 => (p3 (((), (), v2, v3, v4, z.1.1, z1.1.1, z2.1.1, false, z2.1.1, ()), z2.2.1, z2.2.2.1, (v12, ()), ())).bind fun z => bif z.1.2.2.2.2.2.2.2.1 then (p2 (((), 3, z.1.2.2.2.2.1, ()), z.2.1, z.2.2.1, ())).bind fun z3 => some (Sum.inl (((), (), z.1.2.2.1, z.1.2.2.2.1, z.1.2.2.2.2.2.1, ()), z3.2.1, z3.2.2.1, (z.2.2.2.1.1, ()), ())) else (p1 (((), 3, z.1.2.2.2.2.1, 2, z.1.2.2.2.2.2.2.1, ()), z.2.1, z.2.2.1, ())).bind fun z3 => (p1 (((), 1, z.1.2.2.2.1, 3, z.1.2.2.2.2.1, ()), z3.2.1, z3.2.2.1, ())).bind fun z4 => some (Sum.inl (((), (), z.1.2.2.1, z.1.2.2.2.1, z.1.2.2.2.2.2.1, ()), z4.2.1, z4.2.2.1, (z.2.2.2.1.1, ()), ())) else some (Sum.inr (((), (), v2, ()), (c, got, (), held, ok, r, ()), dd, (v12, ()), ())) else some (Sum.inr (((), (), v2, ()), (c, got, (), held, ok, r, ()), dd, (v12, ()), ()))
noncomputable def pFuseL1N : pFuseL1E.T := pFuseL1E.lp (pFuseL1E.un (pFuseL1B pFieldN pPutN pRetireN pFuseL2N))
theorem pFuseL1_raw (p0 : pFieldE.T) (p1 : pPutE.T) (p2 : pRetireE.T) (p3 : pFuseL2E.T) (x) : pFuseL1E.run [pFieldE.on p0, pPutE.on p1, pRetireE.on p2] [(30, pFuseL2E.on p3)] [] x = pFuseL1E.un (pFuseL1B p0 p1 p2 p3) x := by kernel_rfl
theorem pFuseL1_ok : pFuseL1E.Ok pFuseL1N := Le.k f1 (pField_ok.k (pPut_ok.k (pRetire_ok.k g0))) (lcok (by kernel_rfl) (lsc (by kernel_rfl) pFuseL2_ok rfl lsn)) (pFuseL1_raw pFieldN pPutN pRetireN pFuseL2N)
noncomputable abbrev pFuseL0E : Le := ⟨2, Tryz.f38, 0, [0, 3, 4, 5, 6], [pm, .s (.ptr 2 0), vi, vi, .s (.own 3)], PO3, ((Fin.one 2 Tryz.f38.ntmps (.exit 0) [0, 3, 4, 5] [pm, .s (.ptr 2 0), vi, vi] PO2).or (Fin.one 2 Tryz.f38.ntmps .ret [] [] PO))⟩
noncomputable def pFuseL0B (p0 : pWithinE.T) (p1 : pFailedE.T) (p2 : pDirE.T) (p3 : pLoadE.T) (p4 : pLatchE.T) (p5 : pFreeE.T) (p6 : pLeaveE.T) (p7 : pAroundE.T) (v2 v3 : Int) (c : Cfg) (got held : List Int) (ok : Bool) (r : Res) (dd : List Acc) (v12 : Opn) (v13 : List Int) : Option (pFuseL0E.X ⊕ pFuseL0E.fin.Y) := bif ok then (p4 (((), v13, ()), ps c got held ok r dd)).bind fun z => (p2 ((v12.b, ()), ())).bind fun z1 => (p3 (((), z1.1.1, ()), z.2.1, z.2.2.1, ())).bind fun z => bif z.1.1 == 0 then (p1 ((2, ()), ())).bind fun z2 => (p6 (((), z2.1.1, ()), z.2.1, z.2.2.1, ())).bind fun z => some (Sum.inr (Sum.inr ((), z.2.1, z.2.2.1, ()))) else (p2 ((v12.a, ()), ())).bind fun z2 => (p3 (((), z2.1.1, ()), z.2.1, z.2.2.1, ())).bind fun z3 => bif z3.1.1 == 0 then (p1 ((2, ()), ())).bind fun z => (p6 (((), z.1.1, ()), z3.2.1, z3.2.2.1, ())).bind fun z => some (Sum.inr (Sum.inr ((), z.2.1, z.2.2.1, ()))) else (p7 (((), z.1.1, ()), z3.2.1, z3.2.2.1, ())).bind fun z4 => bif decide (List.length z4.2.2.2.1 + [v12.a, v12.b].length ≤ 1000000000) then (p0 ((z4.2.2.2.1 ++ [v12.a, v12.b], z4.2.1.2.2.2.1, ()), ())).bind fun z5 => bif z5.1.1 then some (Sum.inr (Sum.inl (((), (), z.1.1, z3.1.1, ()), z4.2.1, z4.2.2.1, (v12, ()), ()))) else (p5 (((), ()), z4.2.1, z4.2.2.1, ())).bind fun z6 => some (Sum.inl (((), (), z.1.1, z3.1.1, (), ()), z6.2.1, z6.2.2.1, (v12, ()), z4.2.2.2.1 ++ [v12.a, v12.b], ())) else none else some (Sum.inr (Sum.inl (((), (), v2, v3, ()), (c, got, (), held, ok, r, ()), dd, (v12, ()), ())))
noncomputable def pFuseL0N : pFuseL0E.T := pFuseL0E.lp (pFuseL0E.un (pFuseL0B pWithinN pFailedN pDirN pLoadN pLatchN pFreeN pLeaveN pAroundN))
theorem pFuseL0_raw (p0 : pWithinE.T) (p1 : pFailedE.T) (p2 : pDirE.T) (p3 : pLoadE.T) (p4 : pLatchE.T) (p5 : pFreeE.T) (p6 : pLeaveE.T) (p7 : pAroundE.T) (x) : pFuseL0E.run [pWithinE.on p0, pFailedE.on p1, pDirE.on p2, pLoadE.on p3, pLatchE.on p4, pFreeE.on p5, pLeaveE.on p6, pAroundE.on p7] [] [] x = pFuseL0E.un (pFuseL0B p0 p1 p2 p3 p4 p5 p6 p7) x := by kernel_rfl
theorem pFuseL0_ok : pFuseL0E.Ok pFuseL0N := Le.k (fo f1 f1) (pWithin_ok.k (pFailed_ok.k (pDir_ok.k (pLoad_ok.k (pLatch_ok.k (pFree_ok.k (pLeave_ok.k (pAround_ok.k g0)))))))) (noloopN (by kernel_rfl)) (pFuseL0_raw pWithinN pFailedN pDirN pLoadN pLatchN pFreeN pLeaveN pAroundN)
noncomputable abbrev pFuseE : Fe := ⟨38, Tryz.f38, [pm, .s (.e (.st .opn))], PO, [], PO⟩
noncomputable def pFuseB (p0 : pWithinE.T) (p1 : pFailedE.T) (p2 : pDirE.T) (p3 : pLoadE.T) (p4 : pStoreE.T) (p5 : pFieldE.T) (p6 : pPutE.T) (p7 : pRetireE.T) (p8 : pKnownE.T) (p9 : pLatchE.T) (p10 : pFreeE.T) (p11 : pLeaveE.T) (p12 : pAroundE.T) (p13 : pMoveE.T) (p14 : pFuseL0E.T) (p15 : pFuseL2E.T) (p16 : pFuseL1E.T) (o : Opn) (c : Cfg) (got held : List Int) (ok : Bool) (r : Res) (dd : List Acc) : Option pFuseE.Y := bif o.a == o.b then (p1 ((5, ()), ())).bind fun z => (p11 (((), z.1.1, ()), ps c got held ok r dd)).bind fun z => some ((), z.2.1, z.2.2.1, ()) else (p8 (((), o.a, ()), ps c got held ok r dd)).bind fun z => bif !z.1.1 then (p1 ((2, ()), ())).bind fun z1 => (p11 (((), z1.1.1, ()), z.2.1, z.2.2.1, ())).bind fun z => some ((), z.2.1, z.2.2.1, ()) else (p8 (((), o.b, ()), z.2.1, z.2.2.1, ())).bind fun z => bif !z.1.1 then (p1 ((2, ()), ())).bind fun z1 => (p11 (((), z1.1.1, ()), z.2.1, z.2.2.1, ())).bind fun z => some ((), z.2.1, z.2.2.1, ()) else (p2 ((o.b, ()), ())).bind fun z1 => (p3 (((), z1.1.1, ()), z.2.1, z.2.2.1, ())).bind fun z => bif z.1.1 == 0 then (p1 ((2, ()), ())).bind fun z2 => (p11 (((), z2.1.1, ()), z.2.1, z.2.2.1, ())).bind fun z => some ((), z.2.1, z.2.2.1, ()) else (p12 (((), z.1.1, ()), z.2.1, z.2.2.1, ())).bind fun z2 => bif decide (List.length z2.2.2.2.1 + [o.a, o.b].length ≤ 1000000000) then (p14 (((), (), z.1.1, 0, (), ()), z2.2.1, z2.2.2.1, (o, ()), z2.2.2.2.1 ++ [o.a, o.b], ())).bind fun z => selim z (fun z => (p13 (((), z.1.2.2.2.1, z.1.2.2.1, 1, 3, 1, z.2.2.2.1.1.a, ()), z.2.1, z.2.2.1, ())).bind fun z3 => (p13 (((), z.1.2.2.2.1, z.1.2.2.1, 2, 4, 2, z.2.2.2.1.1.a, ()), z3.2.1, z3.2.2.1, ())).bind fun z4 => (p5 (((), 1, z.1.2.2.1, 3, ()), z4.2.1, z4.2.2.1, ())).bind fun z5 => (p16 (((), (), z.1.2.2.1, z.1.2.2.2.1, z5.1.1, ()), z5.2.1, z5.2.2.1, (z.2.2.2.1.1, ()), ())).bind fun z => (p2 ((z.2.2.2.1.1.b, ()), ())).bind fun z6 => (p4 (((), z6.1.1, 0, ()), z.2.1, z.2.2.1, ())).bind fun z7 => (p7 (((), 1, z.1.2.2.1, ()), z7.2.1, z7.2.2.1, ())).bind fun z => (p11 (((), Res.mk 0 0 [] [] [], ()), z.2.1, z.2.2.1, ())).bind fun z => some ((), z.2.1, z.2.2.1, ())) fun z => some ((), z.2.1, z.2.2.1, ()) else none
noncomputable def pFuseN : pFuseE.T := pFuseE.un (pFuseB pWithinN pFailedN pDirN pLoadN pStoreN pFieldN pPutN pRetireN pKnownN pLatchN pFreeN pLeaveN pAroundN pMoveN pFuseL0N pFuseL2N pFuseL1N)
theorem pFuse_raw (p0 : pWithinE.T) (p1 : pFailedE.T) (p2 : pDirE.T) (p3 : pLoadE.T) (p4 : pStoreE.T) (p5 : pFieldE.T) (p6 : pPutE.T) (p7 : pRetireE.T) (p8 : pKnownE.T) (p9 : pLatchE.T) (p10 : pFreeE.T) (p11 : pLeaveE.T) (p12 : pAroundE.T) (p13 : pMoveE.T) (p14 : pFuseL0E.T) (p15 : pFuseL2E.T) (p16 : pFuseL1E.T) (x) : pFuseE.run [pWithinE.on p0, pFailedE.on p1, pDirE.on p2, pLoadE.on p3, pStoreE.on p4, pFieldE.on p5, pPutE.on p6, pRetireE.on p7, pKnownE.on p8, pLatchE.on p9, pFreeE.on p10, pLeaveE.on p11, pAroundE.on p12, pMoveE.on p13] [(10, pFuseL0E.on p14), (30, pFuseL2E.on p15), (24, pFuseL1E.on p16)] [] x = pFuseE.un (pFuseB p0 p1 p2 p3 p4 p5 p6 p7 p8 p9 p10 p11 p12 p13 p14 p15 p16) x := by kernel_rfl
theorem pFuse_ok : pFuseE.Ok pFuseN := Fe.k (by kernel_rfl) (pWithin_ok.k (pFailed_ok.k (pDir_ok.k (pLoad_ok.k (pStore_ok.k (pField_ok.k (pPut_ok.k (pRetire_ok.k (pKnown_ok.k (pLatch_ok.k (pFree_ok.k (pLeave_ok.k (pAround_ok.k (pMove_ok.k g0)))))))))))))) (lcok (by kernel_rfl) (lsc (by kernel_rfl) pFuseL0_ok rfl (lsc (by kernel_rfl) pFuseL1_ok rfl (lsc (by kernel_rfl) pFuseL2_ok rfl lsn)))) (pFuse_raw pWithinN pFailedN pDirN pLoadN pStoreN pFieldN pPutN pRetireN pKnownN pLatchN pFreeN pLeaveN pAroundN pMoveN pFuseL0N pFuseL2N pFuseL1N)
end Go.Ax.Cd
