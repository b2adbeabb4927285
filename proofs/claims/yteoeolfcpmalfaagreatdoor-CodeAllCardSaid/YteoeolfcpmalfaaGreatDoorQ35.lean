/- Merged. -/
import Derived.Test.YteoeolfcpmalfaaGreatDoorQ33
import Derived.Test.YteoeolfcpmalfaaGreatDoorQ34
import Derived.Test.YteoeolfcpmalfaaGreatDoorQ31
import Derived.Test.YteoeolfcpmalfaaGreatDoorQ32
namespace Go.Ax.Cd
open Go.Proofs
set_option linter.unusedVariables false
set_option maxRecDepth 100000
set_option linter.unusedSimpArgs false
set_option linter.unusedSectionVars false
set_option maxHeartbeats 8000000
section
variable {c : Cfg} {got h : List Int} [hg : Bd got] [hh : Bd h] {r : Res} {d : List Acc}
omit hg hh in
theorem dFuseL2 {z : pFuseL2E.X} (hz : Dead c got d (z.2.1, z.2.2.1, ())) {m : Nat} (hm : 0 < m) : loopF (pFuseL2E.un (pFuseL2B pFieldN)) m z = some (((), (), z.1.2.2.1, z.1.2.2.2.1, z.1.2.2.2.2.1, z.1.2.2.2.2.2.2.1, z.1.2.2.2.2.2.2.2.1, z.1.2.2.2.2.2.2.2.2.1, ()), z.2.1, z.2.2.1, z.2.2.2.1, ()) := by
 obtain ⟨⟨_, _, a2, a3, a4, a5, a6, a7, a8, x, _⟩, p, dd, ⟨o', _⟩, _⟩ := z
 obtain ⟨h, r, hh, e⟩ := hz
 cases e
 refine loopF_one hm ?_
 show pFuseL2B pFieldN a2 a3 a4 a5 a6 a7 a8 x _ _ _ false _ _ o' = _
 unfold pFuseL2B
 cases (x != 0) <;> rfl
omit hg hh in
theorem dFuseL1 {z : pFuseL1E.X} (hz : Dead c got d (z.2.1, z.2.2.1, ())) {m : Nat} (hm : 0 < m) : loopF (pFuseL1E.un (pFuseL1B pFieldN pPutN pRetireN pFuseL2N)) m z = some (((), (), z.1.2.2.1, ()), z.2.1, z.2.2.1, z.2.2.2.1, ()) := by
 obtain ⟨⟨_, _, a, b, x, _⟩, p, dd, ⟨o', _⟩, _⟩ := z
 obtain ⟨h, r, hh, e⟩ := hz
 cases e
 refine loopF_one hm ?_
 show pFuseL1B pFieldN pPutN pRetireN pFuseL2N a b x _ _ _ false _ _ o' = _
 unfold pFuseL1B
 cases (x != 0) <;> rfl
noncomputable abbrev fuseG : pFuseL0E.fin.Y → Option pFuseE.Y := fun z => selim z (fun z => (pMoveN (((), z.1.2.2.2.1, z.1.2.2.1, 1, 3, 1, z.2.2.2.1.1.a, ()), z.2.1, z.2.2.1, ())).bind fun z3 => (pMoveN (((), z.1.2.2.2.1, z.1.2.2.1, 2, 4, 2, z.2.2.2.1.1.a, ()), z3.2.1, z3.2.2.1, ())).bind fun z4 => (pFieldN (((), 1, z.1.2.2.1, 3, ()), z4.2.1, z4.2.2.1, ())).bind fun z5 => (pFuseL1N (((), (), z.1.2.2.1, z.1.2.2.2.1, z5.1.1, ()), z5.2.1, z5.2.2.1, (z.2.2.2.1.1, ()), ())).bind fun z => (pDirN ((z.2.2.2.1.1.b, ()), ())).bind fun z6 => (pStoreN (((), z6.1.1, 0, ()), z.2.1, z.2.2.1, ())).bind fun z7 => (pRetireN (((), 1, z.1.2.2.1, ()), z7.2.1, z7.2.2.1, ())).bind fun z => (pLeaveN (((), Res.mk 0 0 [] [] [], ()), z.2.1, z.2.2.1, ())).bind fun z => some ((), z.2.1, z.2.2.1, ())) fun z => some ((), z.2.1, z.2.2.1, ())
def fuseRest (a b xa xb : Int) (c : Cfg) (got h : List Int) : T Res :=
 (T.loop (fuseL0Step b 1 3 1 2 2 4 2 1 c got h a (Res.mk 0 0 [] [] []) 1 xa 1 xb) (got.length + 10) 0).bind fun _ =>
 (loadTr 1 xb 3 c got h).bind fun x3 =>
 (T.loop (fuseL2Step b c got h (Res.mk 0 0 [] [] []) 1 xa 1 xb 3) (got.length + 10) x3).bind fun _ =>
 (setTr (w64 (b + 1)) 0 c got h).bind fun _ =>
 (retireTr 1 xb c got h).bind fun _ => finTr (Res.mk 0 0 [] [] [], h)
theorem sides_eq {α : Type} {a b xa xb : Int} {K : Unit → T α} : (T.loop (fuseL0Step b 1 3 1 2 2 4 2 1 c got h a (Res.mk 0 0 [] [] []) 1 xa 1 xb) (got.length + 10) 0).bind K =
  (moveTr xa xb a b 1 3 1 2 2 4 2 1 0 (Sid.mk 1 3 1 2) c got h).bind fun _ => (moveTr xa xb a b 1 3 1 2 2 4 2 1 1 (Sid.mk 2 4 2 1) c got h).bind fun _ => K () := by
 have e0 : ∀ k, (T.loop (fuseL0Step b 1 3 1 2 2 4 2 1 c got h a (Res.mk 0 0 [] [] []) 1 xa 1 xb) (k + 1) 2).bind K = K () := fun k => by
  rw [T.loop, xA]
  rfl
 have st : ∀ (k : Nat) (i : Int) (s : Sid), decide (i < 2) = true → inR i 2 = true → Sid.mk (rdE EK.int [1, 2] i) (rdE EK.int [3, 4] i) (rdE EK.int [1, 2] i) (rdE EK.int [2, 1] i) = s →
   (T.loop (fuseL0Step b 1 3 1 2 2 4 2 1 c got h a (Res.mk 0 0 [] [] []) 1 xa 1 xb) (k + 1) i).bind K = (moveTr xa xb a b 1 3 1 2 2 4 2 1 i s c got h).bind fun _ => (T.loop (fuseL0Step b 1 3 1 2 2 4 2 1 c got h a (Res.mk 0 0 [] [] []) 1 xa 1 xb) k (w64 (i + 1))).bind K := fun k i s h1 h2 h3 => by
  subst h3
  rw [T.loop, xA]
  unfold moveTr
  rw [fuseL0Step, fuseL0B]
  unfold fuseL1F
  dsimp only [F.tree]
  rw [h1, h2]
  simp only [xA, xC, xT, cond_true]
 rw [show got.length + 10 = ((got.length + 7) + 1 + 1) + 1 from rfl, st _ 0 (Sid.mk 1 3 1 2) rfl rfl rfl]
 congr 1
 funext _
 rw [show w64 (0 + 1) = 1 from by decide, st _ 1 (Sid.mk 2 4 2 1) rfl rfl rfl]
 congr 1
omit hg hh in
theorem dFuseF {y : pFuseL0E.fin.Y} (hy : match y with | .inl y => Dead c got d (y.2.1, y.2.2.1, ()) | .inr y => Dead c got d y.2) : Gets (fuseG y) (DD c got d) := by
 cases y with
 | inr y => exact ⟨_, rfl, hy⟩
 | inl y =>
  show Gets (selim _ _ _) _
  simp only [F.tree, doT, frT, xA, xC, xT, xO, xS, yI, yR, zI, zR, xI, xR, yB, bne, cond_true, cond_false, Bool.not_true, Bool.not_false, Option.bind_assoc, Option.bind_some, zB]
  dsimp only at hy
  repeat' (first|(with_reducible first|refine Yd (by assumption) fun z hz =>?_|refine Yv ?_|refine Yg (by (refine decide_eq_true ?_; simp only [List.length_cons, List.length_nil, List.length_append]; omega)) ?_|refine Yc (fun _ =>?_) fun _ =>?_|refine Yl (by assumption) fun z hz =>?_|refine Ya (by assumption) fun z hz hl =>?_|refine Yq (pWi _ _ (by simp; omega) (Nat.le_trans (Dead.held (by assumption)) (by decide))) ?_|refine Yw (by assumption) ?_|refine Yq (pSp _ (by first | assumption | omega | simp)) ?_|refine Yq (pSe _ (by first | assumption | omega | simp)) ?_)|(refine Ys ?_; assumption)|(refine Ys ⟨by assumption, ?_⟩; simp; omega))
  refine Yq (dFuseL1 (by assumption) FU0) ?_
  simp only [F.tree, doT, frT, xA, xC, xT, xO, xS, yI, yR, zI, zR, xI, xR, yB, bne, cond_true, cond_false, Bool.not_true, Bool.not_false, Option.bind_assoc, Option.bind_some, zB]
  repeat' (first|(with_reducible first|refine Yd (by assumption) fun z hz =>?_|refine Yv ?_|refine Yg (by (refine decide_eq_true ?_; simp only [List.length_cons, List.length_nil, List.length_append]; omega)) ?_|refine Yc (fun _ =>?_) fun _ =>?_|refine Yl (by assumption) fun z hz =>?_|refine Ya (by assumption) fun z hz hl =>?_|refine Yq (pWi _ _ (by simp; omega) (Nat.le_trans (Dead.held (by assumption)) (by decide))) ?_|refine Yw (by assumption) ?_|refine Yq (pSp _ (by first | assumption | omega | simp)) ?_|refine Yq (pSe _ (by first | assumption | omega | simp)) ?_)|(refine Ys ?_; assumption)|(refine Ys ⟨by assumption, ?_⟩; simp; omega))
theorem bindSome {Y : Type} {x : Option Y} : x.bind some = x := by cases x <;> rfl
theorem fuseL2_sim {o : Opn} {a2 a3 a4 key a6 a7 : Int} : ∀ (k : Nat) (p q y : Int) (d : List Acc) (m : Nat), k < m → Sim (((T.loop (walkFL0Step c got h key 3) k (p, q, y)).bind T.ret).exec got d) ((loopF (pFuseL2E.un (pFuseL2B pFieldN)) (m + 1) (((), (), a2, a3, a4, key, a6, a7, false, y, ()), (c, got, (), h, true, r, ()), d, (o, ()), ())).bind some)
  (fun a d z => z = (((), (), a2, a3, a4, a6, a7, selim a (fun _ => false) (fun _ => true), ()), (c, got, (), h, true, r, ()), d, (o, ()), ())) (fun d z => Dead c got d (z.2.1, z.2.2.1, ()))
 | k, p, q, y, d, 0, hk => by omega
 | 0, p, q, y, d, m + 1, hk => trivial
 | k + 1, p, q, y, d, m + 1, hk => by
  have ih := fuseL2_sim (o := o) (a2 := a2) (a3 := a3) (a4 := a4) (key := key) (a6 := a6) (a7 := a7) k 3 y
  have hd1 : ∀ (d : List Acc) (z : pFuseL2E.X), Dead c got d (z.2.1, z.2.2.1, ()) → _ := fun d z hz => dFuseL2 (c := c) (got := got) (d := d) (z := z) hz (Nat.succ_pos m)
  rw [loopS, loopFS]
  have ex : ∀ d, Sim ((T.ret (Sum.inr ()) : T (Unit ⊕ Unit)).exec got d) ((loopF (pFuseL2E.un (pFuseL2B pFieldN)) (m + 1) (((), (), a2, a3, a4, key, a6, a7, true, y, ()), (c, got, (), h, true, r, ()), d, (o, ()), ())).bind some) (fun a d z => z = (((), (), a2, a3, a4, a6, a7, selim a (fun _ => false) (fun _ => true), ()), (c, got, (), h, true, r, ()), d, (o, ()), ())) (fun d z => Dead c got d (z.2.1, z.2.2.1, ())) := fun d => by
   rw [loopFS]
   show Sim _ ((pFuseL2B pFieldN a2 a3 a4 key a6 a7 true y c got h true r d o).bind _) _ _
   unfold pFuseL2B
   cases (y != 0) <;> exact Zr rfl
  generalize hB : loopF (pFuseL2E.un (pFuseL2B pFieldN)) = LB at *
  generalize hT : T.loop (walkFL0Step c got h key 3) = LT at *
  show Sim _ ((pFuseL2B pFieldN a2 a3 a4 key a6 a7 false y c got h true r d o).bind _) _ _
  unfold pFuseL2B walkFL0Step walkFL0B fuseCF fuseCB
  simp only [F.tree, doT, frT, xA, xC, xT, xO, xS, yI, yR, zI, zR, xI, xR, yB, bne, cond_true, cond_false, Bool.not_true, Bool.not_false, Option.bind_assoc, Option.bind_some, zB]
  repeat' (first|(with_reducible first|refine Yd (by assumption) fun z hz =>?_|refine Yv ?_|refine Yg (by (refine decide_eq_true ?_; simp only [List.length_cons, List.length_nil, List.length_append]; omega)) ?_|refine Yc (fun _ =>?_) fun _ =>?_|refine Zs (fun x d hd =>?_) fun d z hz =>?_|refine Zv ?_|refine Zc (fun _ =>?_) fun _ =>?_|refine Zl (fun d =>?_) fun d z hz =>?_|exact Ze|refine Zk (fun d =>?_) fun d z hz =>?_|refine Zf (fun d =>?_) fun d z hz =>?_|refine Za (by assumption) (fun l d hl =>?_) (fun d z hz hl =>?_)|refine Zq (pWi _ _ (by simp; omega) (by simp; omega)) ?_|refine Zw ?_|refine Zq (pSp _ (by omega)) ?_|refine Zq (pSe _ (by omega)) ?_|refine Zt ?_|refine Zu ?_|refine Zn (fun _ =>?_) fun _ =>?_|refine Zo (fun _ =>?_) fun _ =>?_|refine Zg fun _ =>?_|exact Zb|refine Yl (by assumption) fun z hz =>?_|refine Ya (by assumption) fun z hz hl =>?_|refine Yq (pWi _ _ (by simp; omega) (Nat.le_trans (Dead.held (by assumption)) (by decide))) ?_|refine Yw (by assumption) ?_|refine Yq (pSp _ (by first | assumption | omega | simp)) ?_|refine Yq (pSe _ (by first | assumption | omega | simp)) ?_)|(refine Zr ?_;first|exact rfl|exact ⟨rfl, rfl⟩|exact ⟨rfl, by simp; omega⟩)|(refine Ys ?_; assumption)|(refine Ys ⟨by assumption, ?_⟩; simp; omega))
  ·rename_i hx
   show Sim _ ((LB (m + 1) (((), (), a2, a3, a4, key, a6, a7, x == key, y, ()), (c, got, (), h, true, r, ()), d, (o, ()), ())).bind some) _ _
   rw [hx]
   exact ex d
  ·rename_i k0 _ _ hx
   show Sim _ ((LB (m + 1) (((), (), a2, a3, a4, key, a6, a7, k0 == key, x, ()), (c, got, (), h, true, r, ()), d, (o, ()), ())).bind some) _ _
   rw [hx]
   exact ih x d m (by omega)
  all_goals
   refine Yq (hd1 _ _ (by assumption)) ?_
   repeat' (first|(with_reducible first|refine Yd (by assumption) fun z hz =>?_|refine Yv ?_|refine Yg (by (refine decide_eq_true ?_; simp only [List.length_cons, List.length_nil, List.length_append]; omega)) ?_|refine Yc (fun _ =>?_) fun _ =>?_|refine Yl (by assumption) fun z hz =>?_|refine Ya (by assumption) fun z hz hl =>?_|refine Yq (pWi _ _ (by simp; omega) (Nat.le_trans (Dead.held (by assumption)) (by decide))) ?_|refine Yw (by assumption) ?_|refine Yq (pSp _ (by first | assumption | omega | simp)) ?_|refine Yq (pSe _ (by first | assumption | omega | simp)) ?_)|(refine Ys ?_; assumption)|(refine Ys ⟨by assumption, ?_⟩; simp; omega))
theorem fuseL1_sim {o : Opn} {xa xb y : Int} : Sim ((T.loop (fuseL2Step o.b c got h (Res.mk 0 0 [] [] []) 1 xa 1 xb 3) (got.length + 10) y).exec got d) (pFuseL1N (((), (), xb, xa, y, ()), (c, got, (), h, true, r, ()), d, (o, ()), ())) (fun _ d z => z = (((), (), xb, ()), (c, got, (), h, true, r, ()), d, (o, ()), ())) (fun d z => Dead c got d (z.2.1, z.2.2.1, ())) := by
 refine Sim.loopU 1 (R := fun y d z => z = (((), (), xb, xa, y, ()), (c, got, (), h, true, r, ()), d, (o, ()), ())) (E := fun d z => Dead c got d (z.2.1, z.2.2.1, ())) (by have := hg.h; unfold FU; omega) (fun y d z hz =>?_) (fun d z hz => ⟨_, dFuseL1 hz (by decide), hz⟩) rfl
 subst hz
 show Sim _ (pFuseL1B pFieldN pPutN pRetireN pFuseL2N xb xa y c got h true r d o) _ _
 unfold pFuseL1B fuseL2Step fuseL2B walkFF walkFB walkFL0F
 simp only [F.tree, doT, frT, xA, xC, xT, xO, xS, yI, yR, zI, zR, xI, xR, yB, bne, cond_true, cond_false, Bool.not_true, Bool.not_false, Option.bind_assoc, Option.bind_some, zB]
 repeat' (first|(with_reducible first|refine Yd (by assumption) fun z hz =>?_|refine Yv ?_|refine Yg (by (refine decide_eq_true ?_; simp only [List.length_cons, List.length_nil, List.length_append]; omega)) ?_|refine Yc (fun _ =>?_) fun _ =>?_|refine Zs (fun x d hd =>?_) fun d z hz =>?_|refine Zv ?_|refine Zc (fun _ =>?_) fun _ =>?_|refine Zl (fun d =>?_) fun d z hz =>?_|exact Ze|refine Zk (fun d =>?_) fun d z hz =>?_|refine Zf (fun d =>?_) fun d z hz =>?_|refine Za (by assumption) (fun l d hl =>?_) (fun d z hz hl =>?_)|refine Zq (pWi _ _ (by simp; omega) (by simp; omega)) ?_|refine Zw ?_|refine Zq (pSp _ (by omega)) ?_|refine Zq (pSe _ (by omega)) ?_|refine Zt ?_|refine Zu ?_|refine Zn (fun _ =>?_) fun _ =>?_|refine Zo (fun _ =>?_) fun _ =>?_|refine Zg fun _ =>?_|exact Zb|refine Yl (by assumption) fun z hz =>?_|refine Ya (by assumption) fun z hz hl =>?_|refine Yq (pWi _ _ (by simp; omega) (Nat.le_trans (Dead.held (by assumption)) (by decide))) ?_|refine Yw (by assumption) ?_|refine Yq (pSp _ (by first | assumption | omega | simp)) ?_|refine Yq (pSe _ (by first | assumption | omega | simp)) ?_)|(refine Zr ?_;first|exact rfl|exact ⟨rfl, rfl⟩|exact ⟨rfl, by simp; omega⟩)|(refine Ys ?_; assumption)|(refine Ys ⟨by assumption, ?_⟩; simp; omega))
 ·rename_i k _ _ q _ _
  have h1 := fuseL2_sim (c := c) (got := got) (h := h) (r := r) (o := o) (a2 := xb) (a3 := xa) (a4 := y) (key := k) (a6 := q) (a7 := x) (got.length + 10) 3 0 x d (FU - 1) (by have := hg.h; unfold FU; omega)
  rw [T.bind_ret, bindSome, show FU - 1 + 1 = FU by unfold FU; omega] at h1
  refine Sim.bind (y := pFuseL2N _) h1 (fun a d z hz =>?_) (fun d z hz =>?_)
  ·subst hz
   cases a
   ·simp only [F.tree, doT, frT, xA, xC, xT, xO, xS, yI, yR, zI, zR, xI, xR, yB, bne, cond_true, cond_false, Bool.not_true, Bool.not_false, Option.bind_assoc, Option.bind_some, zB]
    repeat' (first|(with_reducible first|refine Yd (by assumption) fun z hz =>?_|refine Yv ?_|refine Yg (by (refine decide_eq_true ?_; simp only [List.length_cons, List.length_nil, List.length_append]; omega)) ?_|refine Yc (fun _ =>?_) fun _ =>?_|refine Zs (fun x d hd =>?_) fun d z hz =>?_|refine Zv ?_|refine Zc (fun _ =>?_) fun _ =>?_|refine Zl (fun d =>?_) fun d z hz =>?_|exact Ze|refine Zk (fun d =>?_) fun d z hz =>?_|refine Zf (fun d =>?_) fun d z hz =>?_|refine Za (by assumption) (fun l d hl =>?_) (fun d z hz hl =>?_)|refine Zq (pWi _ _ (by simp; omega) (by simp; omega)) ?_|refine Zw ?_|refine Zq (pSp _ (by omega)) ?_|refine Zq (pSe _ (by omega)) ?_|refine Zt ?_|refine Zu ?_|refine Zn (fun _ =>?_) fun _ =>?_|refine Zo (fun _ =>?_) fun _ =>?_|refine Zg fun _ =>?_|exact Zb|refine Yl (by assumption) fun z hz =>?_|refine Ya (by assumption) fun z hz hl =>?_|refine Yq (pWi _ _ (by simp; omega) (Nat.le_trans (Dead.held (by assumption)) (by decide))) ?_|refine Yw (by assumption) ?_|refine Yq (pSp _ (by first | assumption | omega | simp)) ?_|refine Yq (pSe _ (by first | assumption | omega | simp)) ?_)|(refine Zr ?_;first|exact rfl|exact ⟨rfl, rfl⟩|exact ⟨rfl, by simp; omega⟩)|(refine Ys ?_; assumption)|(refine Ys ⟨by assumption, ?_⟩; simp; omega))
   ·simp only [F.tree, doT, frT, xA, xC, xT, xO, xS, yI, yR, zI, zR, xI, xR, yB, bne, cond_true, cond_false, Bool.not_true, Bool.not_false, Option.bind_assoc, Option.bind_some, zB]
    repeat' (first|(with_reducible first|refine Yd (by assumption) fun z hz =>?_|refine Yv ?_|refine Yg (by (refine decide_eq_true ?_; simp only [List.length_cons, List.length_nil, List.length_append]; omega)) ?_|refine Yc (fun _ =>?_) fun _ =>?_|refine Zs (fun x d hd =>?_) fun d z hz =>?_|refine Zv ?_|refine Zc (fun _ =>?_) fun _ =>?_|refine Zl (fun d =>?_) fun d z hz =>?_|exact Ze|refine Zk (fun d =>?_) fun d z hz =>?_|refine Zf (fun d =>?_) fun d z hz =>?_|refine Za (by assumption) (fun l d hl =>?_) (fun d z hz hl =>?_)|refine Zq (pWi _ _ (by simp; omega) (by simp; omega)) ?_|refine Zw ?_|refine Zq (pSp _ (by omega)) ?_|refine Zq (pSe _ (by omega)) ?_|refine Zt ?_|refine Zu ?_|refine Zn (fun _ =>?_) fun _ =>?_|refine Zo (fun _ =>?_) fun _ =>?_|refine Zg fun _ =>?_|exact Zb|refine Yl (by assumption) fun z hz =>?_|refine Ya (by assumption) fun z hz hl =>?_|refine Yq (pWi _ _ (by simp; omega) (Nat.le_trans (Dead.held (by assumption)) (by decide))) ?_|refine Yw (by assumption) ?_|refine Yq (pSp _ (by first | assumption | omega | simp)) ?_|refine Yq (pSe _ (by first | assumption | omega | simp)) ?_)|(refine Zr ?_;first|exact rfl|exact ⟨rfl, rfl⟩|exact ⟨rfl, by simp; omega⟩)|(refine Ys ?_; assumption)|(refine Ys ⟨by assumption, ?_⟩; simp; omega))
  ·repeat' (first|(with_reducible first|refine Yd (by assumption) fun z hz =>?_|refine Yv ?_|refine Yg (by (refine decide_eq_true ?_; simp only [List.length_cons, List.length_nil, List.length_append]; omega)) ?_|refine Yc (fun _ =>?_) fun _ =>?_|refine Yl (by assumption) fun z hz =>?_|refine Ya (by assumption) fun z hz hl =>?_|refine Yq (pWi _ _ (by simp; omega) (Nat.le_trans (Dead.held (by assumption)) (by decide))) ?_|refine Yw (by assumption) ?_|refine Yq (pSp _ (by first | assumption | omega | simp)) ?_|refine Yq (pSe _ (by first | assumption | omega | simp)) ?_)|(refine Ys ?_; assumption)|(refine Ys ⟨by assumption, ?_⟩; simp; omega))
 all_goals
  refine Yq (dFuseL2 (by assumption) FU0) ?_
  simp only [F.tree, doT, frT, xA, xC, xT, xO, xS, yI, yR, zI, zR, xI, xR, yB, bne, cond_true, cond_false, Bool.not_true, Bool.not_false, Option.bind_assoc, Option.bind_some, zB]
  repeat' (first|(with_reducible first|refine Yd (by assumption) fun z hz =>?_|refine Yv ?_|refine Yg (by (refine decide_eq_true ?_; simp only [List.length_cons, List.length_nil, List.length_append]; omega)) ?_|refine Yc (fun _ =>?_) fun _ =>?_|refine Yl (by assumption) fun z hz =>?_|refine Ya (by assumption) fun z hz hl =>?_|refine Yq (pWi _ _ (by simp; omega) (Nat.le_trans (Dead.held (by assumption)) (by decide))) ?_|refine Yw (by assumption) ?_|refine Yq (pSp _ (by first | assumption | omega | simp)) ?_|refine Yq (pSe _ (by first | assumption | omega | simp)) ?_)|(refine Ys ?_; assumption)|(refine Ys ⟨by assumption, ?_⟩; simp; omega))
theorem fuseRest_sim {o : Opn} {xa xb : Int} : Sim ((fuseRest o.a o.b xa xb c got h).exec got d) (fuseG (.inl (((), (), xb, xa, ()), (c, got, (), h, true, r, ()), d, (o, ()), ()))) (Ov c got ()) (DD c got) := by
 show Sim _ (selim _ _ _) _ _
 unfold fuseRest
 rw [sides_eq]
 simp only [F.tree, doT, frT, xA, xC, xT, xO, xS, yI, yR, zI, zR, xI, xR, yB, bne, cond_true, cond_false, Bool.not_true, Bool.not_false, Option.bind_assoc, Option.bind_some, zB]
 refine Sim.bind (y := pMoveN _) (move_sim (s := Sid.mk 1 3 1 2)) (fun _ d z hz =>?_) (fun d z hz =>?_)
 ·subst hz
  refine Sim.bind (y := pMoveN _) (move_sim (s := Sid.mk 2 4 2 1)) (fun _ d z hz =>?_) (fun d z hz =>?_)
  ·subst hz
   repeat' (first|(with_reducible first|refine Yd (by assumption) fun z hz =>?_|refine Yv ?_|refine Yg (by (refine decide_eq_true ?_; simp only [List.length_cons, List.length_nil, List.length_append]; omega)) ?_|refine Yc (fun _ =>?_) fun _ =>?_|refine Zs (fun x d hd =>?_) fun d z hz =>?_|refine Zv ?_|refine Zc (fun _ =>?_) fun _ =>?_|refine Zl (fun d =>?_) fun d z hz =>?_|exact Ze|refine Zk (fun d =>?_) fun d z hz =>?_|refine Zf (fun d =>?_) fun d z hz =>?_|refine Za (by assumption) (fun l d hl =>?_) (fun d z hz hl =>?_)|refine Zq (pWi _ _ (by simp; omega) (by simp; omega)) ?_|refine Zw ?_|refine Zq (pSp _ (by omega)) ?_|refine Zq (pSe _ (by omega)) ?_|refine Zt ?_|refine Zu ?_|refine Zn (fun _ =>?_) fun _ =>?_|refine Zo (fun _ =>?_) fun _ =>?_|refine Zg fun _ =>?_|exact Zb|refine Yl (by assumption) fun z hz =>?_|refine Ya (by assumption) fun z hz hl =>?_|refine Yq (pWi _ _ (by simp; omega) (Nat.le_trans (Dead.held (by assumption)) (by decide))) ?_|refine Yw (by assumption) ?_|refine Yq (pSp _ (by first | assumption | omega | simp)) ?_|refine Yq (pSe _ (by first | assumption | omega | simp)) ?_)|(refine Zr ?_;first|exact rfl|exact ⟨rfl, rfl⟩|exact ⟨rfl, by simp; omega⟩)|(refine Ys ?_; assumption)|(refine Ys ⟨by assumption, ?_⟩; simp; omega))
   ·refine Sim.bind (y := pFuseL1N _) fuseL1_sim (fun _ d z hz =>?_) (fun d z hz =>?_)
    ·subst hz
     repeat' (first|(with_reducible first|refine Yd (by assumption) fun z hz =>?_|refine Yv ?_|refine Yg (by (refine decide_eq_true ?_; simp only [List.length_cons, List.length_nil, List.length_append]; omega)) ?_|refine Yc (fun _ =>?_) fun _ =>?_|refine Zs (fun x d hd =>?_) fun d z hz =>?_|refine Zv ?_|refine Zc (fun _ =>?_) fun _ =>?_|refine Zl (fun d =>?_) fun d z hz =>?_|exact Ze|refine Zk (fun d =>?_) fun d z hz =>?_|refine Zf (fun d =>?_) fun d z hz =>?_|refine Za (by assumption) (fun l d hl =>?_) (fun d z hz hl =>?_)|refine Zq (pWi _ _ (by simp; omega) (by simp; omega)) ?_|refine Zw ?_|refine Zq (pSp _ (by omega)) ?_|refine Zq (pSe _ (by omega)) ?_|refine Zt ?_|refine Zu ?_|refine Zn (fun _ =>?_) fun _ =>?_|refine Zo (fun _ =>?_) fun _ =>?_|refine Zg fun _ =>?_|exact Zb|refine Yl (by assumption) fun z hz =>?_|refine Ya (by assumption) fun z hz hl =>?_|refine Yq (pWi _ _ (by simp; omega) (Nat.le_trans (Dead.held (by assumption)) (by decide))) ?_|refine Yw (by assumption) ?_|refine Yq (pSp _ (by first | assumption | omega | simp)) ?_|refine Yq (pSe _ (by first | assumption | omega | simp)) ?_)|(refine Zr ?_;first|exact rfl|exact ⟨rfl, rfl⟩|exact ⟨rfl, by simp; omega⟩)|(refine Ys ?_; assumption)|(refine Ys ⟨by assumption, ?_⟩; simp; omega))
    ·repeat' (first|(with_reducible first|refine Yd (by assumption) fun z hz =>?_|refine Yv ?_|refine Yg (by (refine decide_eq_true ?_; simp only [List.length_cons, List.length_nil, List.length_append]; omega)) ?_|refine Yc (fun _ =>?_) fun _ =>?_|refine Yl (by assumption) fun z hz =>?_|refine Ya (by assumption) fun z hz hl =>?_|refine Yq (pWi _ _ (by simp; omega) (Nat.le_trans (Dead.held (by assumption)) (by decide))) ?_|refine Yw (by assumption) ?_|refine Yq (pSp _ (by first | assumption | omega | simp)) ?_|refine Yq (pSe _ (by first | assumption | omega | simp)) ?_)|(refine Ys ?_; assumption)|(refine Ys ⟨by assumption, ?_⟩; simp; omega))
   ·refine Yq (dFuseL1 (by assumption) FU0) ?_
    simp only [F.tree, doT, frT, xA, xC, xT, xO, xS, yI, yR, zI, zR, xI, xR, yB, bne, cond_true, cond_false, Bool.not_true, Bool.not_false, Option.bind_assoc, Option.bind_some, zB]
    repeat' (first|(with_reducible first|refine Yd (by assumption) fun z hz =>?_|refine Yv ?_|refine Yg (by (refine decide_eq_true ?_; simp only [List.length_cons, List.length_nil, List.length_append]; omega)) ?_|refine Yc (fun _ =>?_) fun _ =>?_|refine Yl (by assumption) fun z hz =>?_|refine Ya (by assumption) fun z hz hl =>?_|refine Yq (pWi _ _ (by simp; omega) (Nat.le_trans (Dead.held (by assumption)) (by decide))) ?_|refine Yw (by assumption) ?_|refine Yq (pSp _ (by first | assumption | omega | simp)) ?_|refine Yq (pSe _ (by first | assumption | omega | simp)) ?_)|(refine Ys ?_; assumption)|(refine Ys ⟨by assumption, ?_⟩; simp; omega))
  ·repeat' (first|(with_reducible first|refine Yd (by assumption) fun z hz =>?_|refine Yv ?_|refine Yg (by (refine decide_eq_true ?_; simp only [List.length_cons, List.length_nil, List.length_append]; omega)) ?_|refine Yc (fun _ =>?_) fun _ =>?_|refine Yl (by assumption) fun z hz =>?_|refine Ya (by assumption) fun z hz hl =>?_|refine Yq (pWi _ _ (by simp; omega) (Nat.le_trans (Dead.held (by assumption)) (by decide))) ?_|refine Yw (by assumption) ?_|refine Yq (pSp _ (by first | assumption | omega | simp)) ?_|refine Yq (pSe _ (by first | assumption | omega | simp)) ?_)|(refine Ys ?_; assumption)|(refine Ys ⟨by assumption, ?_⟩; simp; omega))
   refine Yq (dFuseL1 (by assumption) FU0) ?_
   simp only [F.tree, doT, frT, xA, xC, xT, xO, xS, yI, yR, zI, zR, xI, xR, yB, bne, cond_true, cond_false, Bool.not_true, Bool.not_false, Option.bind_assoc, Option.bind_some, zB]
   repeat' (first|(with_reducible first|refine Yd (by assumption) fun z hz =>?_|refine Yv ?_|refine Yg (by (refine decide_eq_true ?_; simp only [List.length_cons, List.length_nil, List.length_append]; omega)) ?_|refine Yc (fun _ =>?_) fun _ =>?_|refine Yl (by assumption) fun z hz =>?_|refine Ya (by assumption) fun z hz hl =>?_|refine Yq (pWi _ _ (by simp; omega) (Nat.le_trans (Dead.held (by assumption)) (by decide))) ?_|refine Yw (by assumption) ?_|refine Yq (pSp _ (by first | assumption | omega | simp)) ?_|refine Yq (pSe _ (by first | assumption | omega | simp)) ?_)|(refine Ys ?_; assumption)|(refine Ys ⟨by assumption, ?_⟩; simp; omega))
 ·repeat' (first|(with_reducible first|refine Yd (by assumption) fun z hz =>?_|refine Yv ?_|refine Yg (by (refine decide_eq_true ?_; simp only [List.length_cons, List.length_nil, List.length_append]; omega)) ?_|refine Yc (fun _ =>?_) fun _ =>?_|refine Yl (by assumption) fun z hz =>?_|refine Ya (by assumption) fun z hz hl =>?_|refine Yq (pWi _ _ (by simp; omega) (Nat.le_trans (Dead.held (by assumption)) (by decide))) ?_|refine Yw (by assumption) ?_|refine Yq (pSp _ (by first | assumption | omega | simp)) ?_|refine Yq (pSe _ (by first | assumption | omega | simp)) ?_)|(refine Ys ?_; assumption)|(refine Ys ⟨by assumption, ?_⟩; simp; omega))
  refine Yq (dFuseL1 (by assumption) FU0) ?_
  simp only [F.tree, doT, frT, xA, xC, xT, xO, xS, yI, yR, zI, zR, xI, xR, yB, bne, cond_true, cond_false, Bool.not_true, Bool.not_false, Option.bind_assoc, Option.bind_some, zB]
  repeat' (first|(with_reducible first|refine Yd (by assumption) fun z hz =>?_|refine Yv ?_|refine Yg (by (refine decide_eq_true ?_; simp only [List.length_cons, List.length_nil, List.length_append]; omega)) ?_|refine Yc (fun _ =>?_) fun _ =>?_|refine Yl (by assumption) fun z hz =>?_|refine Ya (by assumption) fun z hz hl =>?_|refine Yq (pWi _ _ (by simp; omega) (Nat.le_trans (Dead.held (by assumption)) (by decide))) ?_|refine Yw (by assumption) ?_|refine Yq (pSp _ (by first | assumption | omega | simp)) ?_|refine Yq (pSe _ (by first | assumption | omega | simp)) ?_)|(refine Ys ?_; assumption)|(refine Ys ⟨by assumption, ?_⟩; simp; omega))
end
section
variable {c : Cfg} {got h : List Int} [hg : Bd got] [hh : Bd h] {r : Res} {d : List Acc}
omit hg hh in
theorem dFuseL0 {z : pFuseL0E.X} (hz : Dead c got d (z.2.1, z.2.2.1, ())) {m : Nat} (hm : 0 < m) : loopF (pFuseL0E.un (pFuseL0B pWithinN pFailedN pDirN pLoadN pLatchN pFreeN pLeaveN pAroundN)) m z = some (.inl (((), (), z.1.2.2.1, z.1.2.2.2.1, ()), z.2.1, z.2.2.1, z.2.2.2.1, ())) := by
 obtain ⟨⟨_, _, a, b, _, _⟩, p, dd, ⟨o', _⟩, l, _⟩ := z
 obtain ⟨h, r, hh, e⟩ := hz
 cases e
 refine loopF_one hm ?_
 rfl
omit hg hh in
theorem fuse_eq {a b : Int} : (fuseTr a b c got []).bind finTr = bif a == b then finTr (Res.mk 5 0 [] [] [], []) else bif !kn c a then finTr (Res.mk 2 0 [] [] [], []) else bif !kn c b then finTr (Res.mk 2 0 [] [] [], []) else (findTr b c got []).bind fun x0 => bif x0 == 0 then finTr (Res.mk 2 0 [] [] [], []) else
  (aroundTr 1 x0 c got []).bind fun x2 => bif decide (x2.length + [a, b].length ≤ 1000000000) then
   (T.loop (holdFL0Step b [a, b] c got a 0 0) (got.length + 10) ([], 0, 0, 1, x0, x2 ++ [a, b])).bind fun x3 => selim x3 (fun x => bif !x.1 then finTr (Res.mk 2 0 [] [] [], x.2.1) else fuseRest a b x.2.2.1 x.2.2.2 c got x.2.1) (fun y => finTr (Res.mk 2 0 [] [] [], y.1))
  else .bot := by
 unfold fuseTr fuseF fuseB holdFF holdFB fuseRest fuseL0F fuseL2F holdFL0F
 dsimp only [F.tree, doT, frT]
 rw [known2]
 simp only [F.tree, doT, frT, xA, xC, xT, xO, xS, yI, yR, zI, zR, xI, xR, yB, bne, cond_true, cond_false, Bool.not_true, Bool.not_false, Option.bind_assoc, Option.bind_some, zB]
theorem pFuse_sim (hgot : got.length ≤ 900000) {o : Opn} : Sim (((fuseTr o.a o.b c got []).bind finTr).exec got d) (pFuseN (((), o, ()), ps c got [] true r d)) (Ov c got ()) (DD c got) := by
 rw [fuse_eq]
 show Sim _ (pFuseB pWithinN pFailedN pDirN pLoadN pStoreN pFieldN pPutN pRetireN pKnownN pLatchN pFreeN pLeaveN pAroundN pMoveN pFuseL0N pFuseL2N pFuseL1N o c got [] true r d) _ _
 unfold pFuseB
 change Sim _ (bif o.a == o.b then _ else (pKnownN _).bind fun z => bif !z.1.1 then _ else (pKnownN _).bind fun z => bif !z.1.1 then _ else (pDirN _).bind fun z1 => (pLoadN _).bind fun z => bif z.1.1 == 0 then _ else (pAroundN _).bind fun z2 => bif decide _ then (pFuseL0N _).bind fuseG else none) _ _
 generalize hF : fuseG = Fd
 have hFr : ∀ y, Fd (.inr y) = some ((), y.2.1, y.2.2.1, ()) := fun y => by rw [← hF]; rfl
 repeat' (first|(with_reducible first|refine Yd (by assumption) fun z hz =>?_|refine Yv ?_|refine Yg (by (refine decide_eq_true ?_; simp only [List.length_cons, List.length_nil, List.length_append]; omega)) ?_|refine Yc (fun _ =>?_) fun _ =>?_|refine Zs (fun x d hd =>?_) fun d z hz =>?_|refine Zv ?_|refine Zc (fun _ =>?_) fun _ =>?_|refine Zl (fun d =>?_) fun d z hz =>?_|exact Ze|refine Zk (fun d =>?_) fun d z hz =>?_|refine Zf (fun d =>?_) fun d z hz =>?_|refine Za (by assumption) (fun l d hl =>?_) (fun d z hz hl =>?_)|refine Zq (pWi _ _ (by simp; omega) (by simp; omega)) ?_|refine Zw ?_|refine Zq (pSp _ (by omega)) ?_|refine Zq (pSe _ (by omega)) ?_|refine Zt ?_|refine Zu ?_|refine Zn (fun _ =>?_) fun _ =>?_|refine Zo (fun _ =>?_) fun _ =>?_|refine Zg fun _ =>?_|exact Zb|refine Yl (by assumption) fun z hz =>?_|refine Ya (by assumption) fun z hz hl =>?_|refine Yq (pWi _ _ (by simp; omega) (Nat.le_trans (Dead.held (by assumption)) (by decide))) ?_|refine Yw (by assumption) ?_|refine Yq (pSp _ (by first | assumption | omega | simp)) ?_|refine Yq (pSe _ (by first | assumption | omega | simp)) ?_)|(refine Zr ?_;first|exact rfl|exact ⟨rfl, rfl⟩|exact ⟨rfl, by simp; omega⟩)|(refine Ys ?_; assumption)|(refine Ys ⟨by assumption, ?_⟩; simp; omega))
 ·refine Sim.loopK (fun st d z => z = (((), (), st.2.2.2.2.1, st.2.2.1, (), ()), (c, got, (), [], true, r, ()), d, (o, ()), st.2.2.2.2.2, ()) ∧ st.1 = [] ∧ st.2.2.2.2.2.length ≤ 900002) (fun d z => Dead c got d (z.2.1, z.2.2.1, ())) 1 (by unfold FU; omega) ⟨rfl, rfl, by simp; omega⟩ (fun d z hz => Yq (dFuseL0 hz (by decide)) ?_) ?_
  ·rw [← hF]
   exact dFuseF hz
  ·rintro ⟨_, w, v3, w1, v2, set⟩ d z ⟨rfl, (rfl : _ = []), hs⟩
   dsimp only at hs
   haveI : Bd set := ⟨by omega⟩
   have hos := Nat.le_trans (ordSet_len set) hs
   show Sim _ ((pFuseL0B pWithinN pFailedN pDirN pLoadN pLatchN pFreeN pLeaveN pAroundN v2 v3 c got [] true r d o set).bind _) _ _
   unfold pFuseL0B holdFL0Step holdFL0B fuseC1F fuseC1B
   simp only [F.tree, doT, frT, xA, xC, xT, xO, xS, yI, yR, zI, zR, xI, xR, yB, bne, cond_true, cond_false, Bool.not_true, Bool.not_false, Option.bind_assoc, Option.bind_some, zB]
   simp only [hFr, Option.bind_some]
   repeat' (first|(with_reducible first|refine Yd (by assumption) fun z hz =>?_|refine Yv ?_|refine Yg (by (refine decide_eq_true ?_; simp only [List.length_cons, List.length_nil, List.length_append]; omega)) ?_|refine Yc (fun _ =>?_) fun _ =>?_|refine Zs (fun x d hd =>?_) fun d z hz =>?_|refine Zv ?_|refine Zc (fun _ =>?_) fun _ =>?_|refine Zl (fun d =>?_) fun d z hz =>?_|exact Ze|refine Zk (fun d =>?_) fun d z hz =>?_|refine Zf (fun d =>?_) fun d z hz =>?_|refine Za (by assumption) (fun l d hl =>?_) (fun d z hz hl =>?_)|refine Zq (pWi _ _ (by simp; omega) (by simp; omega)) ?_|refine Zw ?_|refine Zq (pSp _ (by omega)) ?_|refine Zq (pSe _ (by omega)) ?_|refine Zt ?_|refine Zu ?_|refine Zn (fun _ =>?_) fun _ =>?_|refine Zo (fun _ =>?_) fun _ =>?_|refine Zg fun _ =>?_|exact Zb|refine Yl (by assumption) fun z hz =>?_|refine Ya (by assumption) fun z hz hl =>?_|refine Yq (pWi _ _ (by simp; omega) (Nat.le_trans (Dead.held (by assumption)) (by decide))) ?_|refine Yw (by assumption) ?_|refine Yq (pSp _ (by first | assumption | omega | simp)) ?_|refine Yq (pSe _ (by first | assumption | omega | simp)) ?_)|(refine Zr ?_;first|exact rfl|exact ⟨rfl, rfl⟩|exact ⟨rfl, by simp; omega⟩)|(refine Ys ?_; assumption)|(refine Ys ⟨by assumption, ?_⟩; simp; omega))
   all_goals
    subst hF
    first
    |exact Sim.bind fuseRest_sim (fun x d z hz => by cases hz; exact Zr rfl) (fun d z hz => Ys hz)
    |exact Gets.bind (dFuseF (by assumption)) (fun z hz => Ys hz)
 all_goals
  refine Yq (dFuseL0 (by assumption) FU0) ?_
  rw [← hF]
  exact dFuseF (by assumption)
end
noncomputable abbrev pRunE : Fe := ⟨22, Tryz.f22, [.s (.e (.st .cfg)), .s (.e (.st .opn)), .s (.e (.sl .int))], [], [pm], PO⟩
noncomputable def pRunB (p0 : pFailedE.T) (p1 : pAskE.T) (p2 : pLeaveE.T) (p3 : pAddE.T) (p4 : pLinkE.T) (p5 : pCutE.T) (p6 : pSetPE.T) (p7 : pDelE.T) (p8 : pGetE.T) (p9 : pNearE.T) (p10 : pDropE.T) (p11 : pFuseE.T) (c : Cfg) (o : Opn) (got : List Int) : Option pRunE.Y := (p1 (((), Acc.mk 1 0 0 0 0 0, ()), (c, got, (), [], true, Res.mk 0 0 [] [] [], ()), [], ())).bind fun z => bif o.kind == 1 then (p3 (((), ()), z.2.1, z.2.2.1, ())).bind fun z => some (((), ()), z.2.1, z.2.2.1, ()) else bif o.kind == 2 then (p4 (((), o, ()), z.2.1, z.2.2.1, ())).bind fun z => some (((), ()), z.2.1, z.2.2.1, ()) else bif o.kind == 3 then (p5 (((), o, ()), z.2.1, z.2.2.1, ())).bind fun z => some (((), ()), z.2.1, z.2.2.1, ()) else bif o.kind == 4 then (p6 (((), o, ()), z.2.1, z.2.2.1, ())).bind fun z => some (((), ()), z.2.1, z.2.2.1, ()) else bif o.kind == 5 then (p7 (((), o, ()), z.2.1, z.2.2.1, ())).bind fun z => some (((), ()), z.2.1, z.2.2.1, ()) else bif o.kind == 6 then (p8 (((), o, ()), z.2.1, z.2.2.1, ())).bind fun z => some (((), ()), z.2.1, z.2.2.1, ()) else bif o.kind == 7 then (p9 (((), o, ()), z.2.1, z.2.2.1, ())).bind fun z => some (((), ()), z.2.1, z.2.2.1, ()) else bif o.kind == 8 then (p10 (((), o, ()), z.2.1, z.2.2.1, ())).bind fun z => some (((), ()), z.2.1, z.2.2.1, ()) else bif o.kind == 9 then (p11 (((), o, ()), z.2.1, z.2.2.1, ())).bind fun z => some (((), ()), z.2.1, z.2.2.1, ()) else (p0 ((1, ()), ())).bind fun z1 => (p2 (((), z1.1.1, ()), z.2.1, z.2.2.1, ())).bind fun z => some (((), ()), z.2.1, z.2.2.1, ())
noncomputable def pRunN : pRunE.T := pRunE.un (pRunB pFailedN pAskN pLeaveN pAddN pLinkN pCutN pSetPN pDelN pGetN pNearN pDropN pFuseN)
theorem pRun_raw (p0 : pFailedE.T) (p1 : pAskE.T) (p2 : pLeaveE.T) (p3 : pAddE.T) (p4 : pLinkE.T) (p5 : pCutE.T) (p6 : pSetPE.T) (p7 : pDelE.T) (p8 : pGetE.T) (p9 : pNearE.T) (p10 : pDropE.T) (p11 : pFuseE.T) (x) : pRunE.run [pFailedE.on p0, pAskE.on p1, pLeaveE.on p2, pAddE.on p3, pLinkE.on p4, pCutE.on p5, pSetPE.on p6, pDelE.on p7, pGetE.on p8, pNearE.on p9, pDropE.on p10, pFuseE.on p11] [] [(1, [(7, some 6, (.st .acc))])] x = pRunE.un (pRunB p0 p1 p2 p3 p4 p5 p6 p7 p8 p9 p10 p11) x := by kernel_rfl
theorem pRun_ok : pRunE.Ok pRunN := Fe.k (by kernel_rfl) (pFailed_ok.k (pAsk_ok.k (pLeave_ok.k (pAdd_ok.k (pLink_ok.k (pCut_ok.k (pSetP_ok.k (pDel_ok.k (pGet_ok.k (pNear_ok.k (pDrop_ok.k (pFuse_ok.k g0)))))))))))) (noloopN (by kernel_rfl)) (pRun_raw pFailedN pAskN pLeaveN pAddN pLinkN pCutN pSetPN pDelN pGetN pNearN pDropN pFuseN)
noncomputable abbrev pNextE : Fe := ⟨13, Tryz.f13, [.s (.e (.st .cfg)), .s (.e (.st .opn)), .s (.e (.sl .int))], [], [.s (.e (.st .acc)), .s (.e (.st .res)), vb], []⟩
noncomputable def pNextB (p0 : pRunE.T) (c : Cfg) (o : Opn) (got : List Int) : Option pNextE.Y := (p0 ((c, o, got, ()), ())).bind fun z => bif !z.2.1.2.2.2.2.1 then bif inR (w64 (Int.ofNat (List.length z.2.2.1) - 1)) (List.length z.2.2.1) then some ((rdE (EK.st SN.acc) z.2.2.1 (w64 (Int.ofNat (List.length z.2.2.1) - 1)), Res.mk 0 0 [] [] [], false, ()), ()) else none else some ((Acc.mk 0 0 0 0 0 0, z.2.1.2.2.2.2.2.1, true, ()), ())
noncomputable def pNextN : pNextE.T := pNextE.un (pNextB pRunN)
theorem pNext_raw (p0 : pRunE.T) (x) : pNextE.run [pRunE.on p0] [] [] x = pNextE.un (pNextB p0) x := by kernel_rfl
theorem pNext_ok : pNextE.Ok pNextN := Fe.k (by kernel_rfl) (pRun_ok.k g0) (noloopN (by kernel_rfl)) (pNext_raw pRunN)
noncomputable abbrev pAllE : Fe := ⟨17, Tryz.f17, [.s (.e (.st .cfg)), .s (.e (.st .opn)), .s (.e (.sl .int))], [], [.s (.e (.sl (.st .acc)))], []⟩
noncomputable def pAllB (p0 : pRunE.T) (c : Cfg) (o : Opn) (got : List Int) : Option pAllE.Y := (p0 ((c, o, got, ()), ())).bind fun z => some ((z.2.2.1, ()), ())
noncomputable def pAllN : pAllE.T := pAllE.un (pAllB pRunN)
theorem pAll_raw (p0 : pRunE.T) (x) : pAllE.run [pRunE.on p0] [] [] x = pAllE.un (pAllB p0) x := by kernel_rfl
theorem pAll_ok : pAllE.Ok pAllN := Fe.k (by kernel_rfl) (pRun_ok.k g0) (noloopN (by kernel_rfl)) (pAll_raw pRunN)
noncomputable abbrev pSameAllL0E : Le := ⟨0, Tryz.f15, 0, [0, 1, 12, 13], [.s (.e (.sl (.st .acc))), .s (.e (.sl (.st .acc))), vi, vi], [], ((Fin.one 0 Tryz.f15.ntmps (.exit 0) [] [] []).or (Fin.one 0 Tryz.f15.ntmps .ret [4] [vb] []))⟩
noncomputable def pSameAllL0B (v0 v1 : List Acc) (v2 v3 : Int) : Option (pSameAllL0E.X ⊕ pSameAllL0E.fin.Y) := bif decide (v3 < v2) then bif inR v3 v0.length then bif inR v3 v1.length then bif !((rdE (EK.st SN.acc) v0 v3).kind == (rdE (EK.st SN.acc) v1 v3).kind && ((rdE (EK.st SN.acc) v0 v3).at_ == (rdE (EK.st SN.acc) v1 v3).at_ && ((rdE (EK.st SN.acc) v0 v3).which == (rdE (EK.st SN.acc) v1 v3).which && ((rdE (EK.st SN.acc) v0 v3).ref == (rdE (EK.st SN.acc) v1 v3).ref && ((rdE (EK.st SN.acc) v0 v3).field == (rdE (EK.st SN.acc) v1 v3).field && ((rdE (EK.st SN.acc) v0 v3).value == (rdE (EK.st SN.acc) v1 v3).value && true)))))) then some (Sum.inr (Sum.inr ((false, ()), ()))) else some (Sum.inl ((v0, v1, v2, w64 (v3 + 1), ()), ())) else none else none else some (Sum.inr (Sum.inl ((), ())))
noncomputable def pSameAllL0N : pSameAllL0E.T := pSameAllL0E.lp (pSameAllL0E.un pSameAllL0B)
theorem pSameAllL0_raw (x) : pSameAllL0E.run [] [] [] x = pSameAllL0E.un pSameAllL0B x := by kernel_rfl
theorem pSameAllL0_ok : pSameAllL0E.Ok pSameAllL0N := Le.k (fo f1 f1) g0 (noloopN (by kernel_rfl)) pSameAllL0_raw
noncomputable abbrev pSameAllE : Fe := ⟨15, Tryz.f15, [.s (.e (.sl (.st .acc))), .s (.e (.sl (.st .acc)))], [], [vb], []⟩
noncomputable def pSameAllB (p0 : pSameAllL0E.T) (a b : List Acc) : Option pSameAllE.Y := bif Int.ofNat a.length != Int.ofNat b.length then some ((false, ()), ()) else (p0 ((a, b, Int.ofNat a.length, 0, ()), ())).bind fun z => selim z (fun z => some ((true, ()), ())) fun z => some ((z.1.1, ()), ())
noncomputable def pSameAllN : pSameAllE.T := pSameAllE.un (pSameAllB pSameAllL0N)
theorem pSameAll_raw (p0 : pSameAllL0E.T) (x) : pSameAllE.run [] [(4, pSameAllL0E.on p0)] [] x = pSameAllE.un (pSameAllB p0) x := by kernel_rfl
theorem pSameAll_ok : pSameAllE.Ok pSameAllN := Fe.k (by kernel_rfl) g0 (lcok (by kernel_rfl) (lsc (by kernel_rfl) pSameAllL0_ok rfl lsn)) (pSameAll_raw pSameAllL0N)
instance : DOk pAddN := ⟨fun {c got d a s} hs => by
 show Gets (pAddB pFailedN pDirN pLoadN pStoreN pPutN pTakeN pLatchN pLeaveN _ _ _ _ _ _) _
 unfold pAddB
 repeat' (first|(with_reducible first|refine Yd (by assumption) fun z hz =>?_|refine Yv ?_|refine Yg (by (refine decide_eq_true ?_; simp only [List.length_cons, List.length_nil, List.length_append]; omega)) ?_|refine Yc (fun _ =>?_) fun _ =>?_|refine Yl (by assumption) fun z hz =>?_|refine Ya (by assumption) fun z hz hl =>?_|refine Yq (pWi _ _ (by simp; omega) (Nat.le_trans (Dead.held (by assumption)) (by decide))) ?_|refine Yw (by assumption) ?_|refine Yq (pSp _ (by first | assumption | omega | simp)) ?_|refine Yq (pSe _ (by first | assumption | omega | simp)) ?_)|(refine Ys ?_; assumption)|(refine Ys ⟨by assumption, ?_⟩; simp; omega))⟩
instance : DOk pLinkN := ⟨fun {c got d a s} hs => by
 show Gets (pLinkB pFailedN pDirN pLoadN pStoreN pFieldN pPutN pTakeN pEdgeN pKnownN pLatchN pLeaveN _ _ _ _ _ _ _) _
 unfold pLinkB
 repeat' (first|(with_reducible first|refine Yd (by assumption) fun z hz =>?_|refine Yv ?_|refine Yg (by (refine decide_eq_true ?_; simp only [List.length_cons, List.length_nil, List.length_append]; omega)) ?_|refine Yc (fun _ =>?_) fun _ =>?_|refine Yl (by assumption) fun z hz =>?_|refine Ya (by assumption) fun z hz hl =>?_|refine Yq (pWi _ _ (by simp; omega) (Nat.le_trans (Dead.held (by assumption)) (by decide))) ?_|refine Yw (by assumption) ?_|refine Yq (pSp _ (by first | assumption | omega | simp)) ?_|refine Yq (pSe _ (by first | assumption | omega | simp)) ?_)|(refine Ys ?_; assumption)|(refine Ys ⟨by assumption, ?_⟩; simp; omega))⟩
instance : DOk pSetPN := ⟨fun {c got d a s} hs => by
 show Gets (pSetPB pFailedN pDirN pLoadN pFieldN pPutN pTakeN pKnownN pLatchN pLeaveN pSetPL0N _ _ _ _ _ _ _) _
 unfold pSetPB
 repeat' (first|(with_reducible first|refine Yd (by assumption) fun z hz =>?_|refine Yv ?_|refine Yg (by (refine decide_eq_true ?_; simp only [List.length_cons, List.length_nil, List.length_append]; omega)) ?_|refine Yc (fun _ =>?_) fun _ =>?_|refine Yl (by assumption) fun z hz =>?_|refine Ya (by assumption) fun z hz hl =>?_|refine Yq (pWi _ _ (by simp; omega) (Nat.le_trans (Dead.held (by assumption)) (by decide))) ?_|refine Yw (by assumption) ?_|refine Yq (pSp _ (by first | assumption | omega | simp)) ?_|refine Yq (pSe _ (by first | assumption | omega | simp)) ?_)|(refine Ys ?_; assumption)|(refine Ys ⟨by assumption, ?_⟩; simp; omega))
 refine Yq (dSetPL (by assumption) FU0) ?_
 simp only [F.tree, doT, frT, xA, xC, xT, xO, xS, yI, yR, zI, zR, xI, xR, yB, bne, cond_true, cond_false, Bool.not_true, Bool.not_false, Option.bind_assoc, Option.bind_some, zB]
 repeat' (first|(with_reducible first|refine Yd (by assumption) fun z hz =>?_|refine Yv ?_|refine Yg (by (refine decide_eq_true ?_; simp only [List.length_cons, List.length_nil, List.length_append]; omega)) ?_|refine Yc (fun _ =>?_) fun _ =>?_|refine Yl (by assumption) fun z hz =>?_|refine Ya (by assumption) fun z hz hl =>?_|refine Yq (pWi _ _ (by simp; omega) (Nat.le_trans (Dead.held (by assumption)) (by decide))) ?_|refine Yw (by assumption) ?_|refine Yq (pSp _ (by first | assumption | omega | simp)) ?_|refine Yq (pSe _ (by first | assumption | omega | simp)) ?_)|(refine Ys ?_; assumption)|(refine Ys ⟨by assumption, ?_⟩; simp; omega))⟩
instance : DOk pDelN := ⟨fun {c got d a s} hs => by
 show Gets (pDelB pFailedN pDirN pLoadN pFieldN pPutN pRetireN pKnownN pLatchN pLeaveN pDelL0N _ _ _ _ _ _ _) _
 unfold pDelB
 repeat' (first|(with_reducible first|refine Yd (by assumption) fun z hz =>?_|refine Yv ?_|refine Yg (by (refine decide_eq_true ?_; simp only [List.length_cons, List.length_nil, List.length_append]; omega)) ?_|refine Yc (fun _ =>?_) fun _ =>?_|refine Yl (by assumption) fun z hz =>?_|refine Ya (by assumption) fun z hz hl =>?_|refine Yq (pWi _ _ (by simp; omega) (Nat.le_trans (Dead.held (by assumption)) (by decide))) ?_|refine Yw (by assumption) ?_|refine Yq (pSp _ (by first | assumption | omega | simp)) ?_|refine Yq (pSe _ (by first | assumption | omega | simp)) ?_)|(refine Ys ?_; assumption)|(refine Ys ⟨by assumption, ?_⟩; simp; omega))
 refine Yq (dDelL (by assumption) FU0) ?_
 simp only [F.tree, doT, frT, xA, xC, xT, xO, xS, yI, yR, zI, zR, xI, xR, yB, bne, cond_true, cond_false, Bool.not_true, Bool.not_false, Option.bind_assoc, Option.bind_some, zB]
 repeat' (first|(with_reducible first|refine Yd (by assumption) fun z hz =>?_|refine Yv ?_|refine Yg (by (refine decide_eq_true ?_; simp only [List.length_cons, List.length_nil, List.length_append]; omega)) ?_|refine Yc (fun _ =>?_) fun _ =>?_|refine Yl (by assumption) fun z hz =>?_|refine Ya (by assumption) fun z hz hl =>?_|refine Yq (pWi _ _ (by simp; omega) (Nat.le_trans (Dead.held (by assumption)) (by decide))) ?_|refine Yw (by assumption) ?_|refine Yq (pSp _ (by first | assumption | omega | simp)) ?_|refine Yq (pSe _ (by first | assumption | omega | simp)) ?_)|(refine Ys ?_; assumption)|(refine Ys ⟨by assumption, ?_⟩; simp; omega))⟩
instance : DOk pCutN := ⟨fun {c got d a s} hs => by
 show Gets (pCutB pWithinN pFailedN pLoadN pStoreN pFieldN pRetireN pEdgeN pLatchN pFreeN pLeaveN pUnlinkN pCutL0N _ _ _ _ _ _ _) _
 unfold pCutB
 repeat' (first|(with_reducible first|refine Yd (by assumption) fun z hz =>?_|refine Yv ?_|refine Yg (by (refine decide_eq_true ?_; simp only [List.length_cons, List.length_nil, List.length_append]; omega)) ?_|refine Yc (fun _ =>?_) fun _ =>?_|refine Yl (by assumption) fun z hz =>?_|refine Ya (by assumption) fun z hz hl =>?_|refine Yq (pWi _ _ (by simp; omega) (Nat.le_trans (Dead.held (by assumption)) (by decide))) ?_|refine Yw (by assumption) ?_|refine Yq (pSp _ (by first | assumption | omega | simp)) ?_|refine Yq (pSe _ (by first | assumption | omega | simp)) ?_)|(refine Ys ?_; assumption)|(refine Ys ⟨by assumption, ?_⟩; simp; omega))
 refine Yq (dCutL (by assumption) FU0) ?_
 simp only [F.tree, doT, frT, xA, xC, xT, xO, xS, yI, yR, zI, zR, xI, xR, yB, bne, cond_true, cond_false, Bool.not_true, Bool.not_false, Option.bind_assoc, Option.bind_some, zB]
 repeat' (first|(with_reducible first|refine Yd (by assumption) fun z hz =>?_|refine Yv ?_|refine Yg (by (refine decide_eq_true ?_; simp only [List.length_cons, List.length_nil, List.length_append]; omega)) ?_|refine Yc (fun _ =>?_) fun _ =>?_|refine Yl (by assumption) fun z hz =>?_|refine Ya (by assumption) fun z hz hl =>?_|refine Yq (pWi _ _ (by simp; omega) (Nat.le_trans (Dead.held (by assumption)) (by decide))) ?_|refine Yw (by assumption) ?_|refine Yq (pSp _ (by first | assumption | omega | simp)) ?_|refine Yq (pSe _ (by first | assumption | omega | simp)) ?_)|(refine Ys ?_; assumption)|(refine Ys ⟨by assumption, ?_⟩; simp; omega))⟩
instance : DOk pGetN := ⟨fun {c got d a s} hs => by
 show Gets (pGetB pFailedN pDirN pLoadN pFieldN pSeeN pKnownN pLeaveN pSortPrN pGetL1N pGetL0N _ _ _ _ _ _ _) _
 unfold pGetB
 repeat' (first|(with_reducible first|refine Yd (by assumption) fun z hz =>?_|refine Yv ?_|refine Yg (by (refine decide_eq_true ?_; simp only [List.length_cons, List.length_nil, List.length_append]; omega)) ?_|refine Yc (fun _ =>?_) fun _ =>?_|refine Yl (by assumption) fun z hz =>?_|refine Ya (by assumption) fun z hz hl =>?_|refine Yq (pWi _ _ (by simp; omega) (Nat.le_trans (Dead.held (by assumption)) (by decide))) ?_|refine Yw (by assumption) ?_|refine Yq (pSp _ (by first | assumption | omega | simp)) ?_|refine Yq (pSe _ (by first | assumption | omega | simp)) ?_)|(refine Ys ?_; assumption)|(refine Ys ⟨by assumption, ?_⟩; simp; omega))
 refine Yq (dGetL0 (by assumption) FU0) ?_
 simp only [F.tree, doT, frT, xA, xC, xT, xO, xS, yI, yR, zI, zR, xI, xR, yB, bne, cond_true, cond_false, Bool.not_true, Bool.not_false, Option.bind_assoc, Option.bind_some, zB]
 repeat' (first|(with_reducible first|refine Yd (by assumption) fun z hz =>?_|refine Yv ?_|refine Yg (by (refine decide_eq_true ?_; simp only [List.length_cons, List.length_nil, List.length_append]; omega)) ?_|refine Yc (fun _ =>?_) fun _ =>?_|refine Yl (by assumption) fun z hz =>?_|refine Ya (by assumption) fun z hz hl =>?_|refine Yq (pWi _ _ (by simp; omega) (Nat.le_trans (Dead.held (by assumption)) (by decide))) ?_|refine Yw (by assumption) ?_|refine Yq (pSp _ (by first | assumption | omega | simp)) ?_|refine Yq (pSe _ (by first | assumption | omega | simp)) ?_)|(refine Ys ?_; assumption)|(refine Ys ⟨by assumption, ?_⟩; simp; omega))⟩
instance : DOk pNearN := ⟨fun {c got d a s} hs => by
 show Gets (pNearB pFailedN pDirN pLoadN pFieldN pSeeN pKnownN pLeaveN pSortEnN pNearL1N pNearL2N pNearL0N _ _ _ _ _ _ _) _
 unfold pNearB
 repeat' (first|(with_reducible first|refine Yd (by assumption) fun z hz =>?_|refine Yv ?_|refine Yg (by (refine decide_eq_true ?_; simp only [List.length_cons, List.length_nil, List.length_append]; omega)) ?_|refine Yc (fun _ =>?_) fun _ =>?_|refine Yl (by assumption) fun z hz =>?_|refine Ya (by assumption) fun z hz hl =>?_|refine Yq (pWi _ _ (by simp; omega) (Nat.le_trans (Dead.held (by assumption)) (by decide))) ?_|refine Yw (by assumption) ?_|refine Yq (pSp _ (by first | assumption | omega | simp)) ?_|refine Yq (pSe _ (by first | assumption | omega | simp)) ?_)|(refine Ys ?_; assumption)|(refine Ys ⟨by assumption, ?_⟩; simp; omega))
 refine Yq (dNearL0 (by assumption) FU0) ?_
 simp only [F.tree, doT, frT, xA, xC, xT, xO, xS, yI, yR, zI, zR, xI, xR, yB, bne, cond_true, cond_false, Bool.not_true, Bool.not_false, Option.bind_assoc, Option.bind_some, zB]
 repeat' (first|(with_reducible first|refine Yd (by assumption) fun z hz =>?_|refine Yv ?_|refine Yg (by (refine decide_eq_true ?_; simp only [List.length_cons, List.length_nil, List.length_append]; omega)) ?_|refine Yc (fun _ =>?_) fun _ =>?_|refine Yl (by assumption) fun z hz =>?_|refine Ya (by assumption) fun z hz hl =>?_|refine Yq (pWi _ _ (by simp; omega) (Nat.le_trans (Dead.held (by assumption)) (by decide))) ?_|refine Yw (by assumption) ?_|refine Yq (pSp _ (by first | assumption | omega | simp)) ?_|refine Yq (pSe _ (by first | assumption | omega | simp)) ?_)|(refine Ys ?_; assumption)|(refine Ys ⟨by assumption, ?_⟩; simp; omega))⟩
instance : DOk pDropN := ⟨fun {c got d a s} hs => by
 show Gets (pDropB pWithinN pFailedN pDirN pLoadN pStoreN pFieldN pRetireN pEdgeN pKnownN pLatchN pFreeN pLeaveN pAroundN pUnlinkN pDropL0N pDropL1N pDropL2N pDropL3N _ _ _ _ _ _ _) _
 unfold pDropB
 repeat' (first|(with_reducible first|refine Yd (by assumption) fun z hz =>?_|refine Yv ?_|refine Yg (by (refine decide_eq_true ?_; simp only [List.length_cons, List.length_nil, List.length_append]; omega)) ?_|refine Yc (fun _ =>?_) fun _ =>?_|refine Yl (by assumption) fun z hz =>?_|refine Ya (by assumption) fun z hz hl =>?_|refine Yq (pWi _ _ (by simp; omega) (Nat.le_trans (Dead.held (by assumption)) (by decide))) ?_|refine Yw (by assumption) ?_|refine Yq (pSp _ (by first | assumption | omega | simp)) ?_|refine Yq (pSe _ (by first | assumption | omega | simp)) ?_)|(refine Ys ?_; assumption)|(refine Ys ⟨by assumption, ?_⟩; simp; omega))
 refine Yq (dDropL0 (by assumption) FU0) ?_
 exact dDropF (by assumption)⟩
instance : DOk pFuseN := ⟨fun {c got d a s} hs => by
 show Gets (pFuseB pWithinN pFailedN pDirN pLoadN pStoreN pFieldN pPutN pRetireN pKnownN pLatchN pFreeN pLeaveN pAroundN pMoveN pFuseL0N pFuseL2N pFuseL1N _ _ _ _ _ _ _) _
 unfold pFuseB
 repeat' (first|(with_reducible first|refine Yd (by assumption) fun z hz =>?_|refine Yv ?_|refine Yg (by (refine decide_eq_true ?_; simp only [List.length_cons, List.length_nil, List.length_append]; omega)) ?_|refine Yc (fun _ =>?_) fun _ =>?_|refine Yl (by assumption) fun z hz =>?_|refine Ya (by assumption) fun z hz hl =>?_|refine Yq (pWi _ _ (by simp; omega) (Nat.le_trans (Dead.held (by assumption)) (by decide))) ?_|refine Yw (by assumption) ?_|refine Yq (pSp _ (by first | assumption | omega | simp)) ?_|refine Yq (pSe _ (by first | assumption | omega | simp)) ?_)|(refine Ys ?_; assumption)|(refine Ys ⟨by assumption, ?_⟩; simp; omega))
 refine Yq (dFuseL0 (by assumption) FU0) ?_
 exact dFuseF (by assumption)⟩
section
variable {c : Cfg} {got : List Int} [hg : Bd got] {r : Res} {d : List Acc}
theorem Sim.out {α R Y : Type} {o : Out α} {y : Option (R × PS)} {F : R × PS → Option Y} {L : α → List Acc → R × PS → Prop} {L' : α → List Acc → Y → Prop} {D' : List Acc → Y → Prop} (h : Sim o y L (DD c got)) (hk : ∀ a d z, L a d z → Gets (F z) (L' a d)) (hd : ∀ d z, DD c got d z → Gets (F z) (D' d)) : Sim o (y.bind F) L' D' := by
 cases o with
 | ok a d => exact Gets.bind h (hk a d)
 | stop d => exact Gets.bind h (hd d)
 | bot => trivial
theorem pRun_sim (hgot : got.length ≤ 900000) {o : Opn} : Sim ((runTr c o got).exec got []) (pRunN ((c, o, got, ()), ())) (fun x d z => z = (((), ()), (c, got, (), [], true, x, ()), d, ())) (fun d z => Dead c got d (z.2.1, z.2.2.1, ())) := by
 show Sim _ (pRunB pFailedN pAskN pLeaveN pAddN pLinkN pCutN pSetPN pDelN pGetN pNearN pDropN pFuseN c o got) _ _
 have hr : runTr c o got = (T.ask (Acc.mk 1 0 0 0 0 0) T.ret).bind fun _ => (programTr o c got []).bind finTr := rfl
 rw [hr]
 unfold pRunB programTr programF programB
 simp only [F.tree, doT, frT, xA, xC, xT, xO, xS, yI, yR, zI, zR, xI, xR, yB, bne, cond_true, cond_false, Bool.not_true, Bool.not_false, Option.bind_assoc, Option.bind_some, zB]
 refine Zs (h := []) (r := Res.mk 0 0 [] [] []) (fun x d hd =>?_) (fun d z hz =>?_)
 ·repeat' (refine Zc (fun _ =>?_) fun _ =>?_)
  ·exact Sim.out pAdd_sim (fun a d z hz => by cases hz; exact Ys rfl) (fun d z hz => Ys hz)
  ·exact Sim.out pLink_sim (fun a d z hz => by cases hz; exact Ys rfl) (fun d z hz => Ys hz)
  ·exact Sim.out pCut_sim (fun a d z hz => by cases hz; exact Ys rfl) (fun d z hz => Ys hz)
  ·exact Sim.out pSetP_sim (fun a d z hz => by cases hz; exact Ys rfl) (fun d z hz => Ys hz)
  ·exact Sim.out pDel_sim (fun a d z hz => by cases hz; exact Ys rfl) (fun d z hz => Ys hz)
  ·exact Sim.out pGet_sim (fun a d z hz => by cases hz; exact Ys rfl) (fun d z hz => Ys hz)
  ·exact Sim.out pNear_sim (fun a d z hz => by cases hz; exact Ys rfl) (fun d z hz => Ys hz)
  ·exact Sim.out (pDrop_sim hgot) (fun a d z hz => by cases hz; exact Ys rfl) (fun d z hz => Ys hz)
  ·exact Sim.out (pFuse_sim hgot) (fun a d z hz => by cases hz; exact Ys rfl) (fun d z hz => Ys hz)
  ·refine Zv ?_
   rw [← T.bind_ret (finTr _)]
   exact Zk (fun d => Zr rfl) (fun d z hz => Ys hz)
 ·repeat' (first|(with_reducible first|refine Yd (by assumption) fun z hz =>?_|refine Yv ?_|refine Yg (by (refine decide_eq_true ?_; simp only [List.length_cons, List.length_nil, List.length_append]; omega)) ?_|refine Yc (fun _ =>?_) fun _ =>?_|refine Yl (by assumption) fun z hz =>?_|refine Ya (by assumption) fun z hz hl =>?_|refine Yq (pWi _ _ (by simp; omega) (Nat.le_trans (Dead.held (by assumption)) (by decide))) ?_|refine Yw (by assumption) ?_|refine Yq (pSp _ (by first | assumption | omega | simp)) ?_|refine Yq (pSe _ (by first | assumption | omega | simp)) ?_)|(refine Ys ?_; assumption)|(refine Ys ⟨by assumption, ?_⟩; simp; omega))
end
end Go.Ax.Cd
