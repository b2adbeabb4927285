/- Merged. -/
import Derived.Test.YteoeolfcpmalfaaGreatDoorQ31
import Derived.Test.YteoeolfcpmalfaaGreatDoorQ33
import Derived.Test.YteoeolfcpmalfaaGreatDoorQ16
namespace Go.Ax.Cd
open Go.Proofs
set_option linter.unusedVariables false
set_option maxRecDepth 100000
set_option linter.unusedSimpArgs false
set_option linter.unusedSectionVars false
set_option maxHeartbeats 8000000
section
variable {c : Cfg} {got h : List Int} [hg : Bd got] [hh : Bd h] {r : Res} {d : List Acc}
omit hg hh in
theorem dDropL1 {z : pDropL1E.X} (hz : Dead c got d (z.2.1, z.2.2.1, ())) {m : Nat} (hm : 0 < m) : loopF (pDropL1E.un (pDropL1B pStoreN pFieldN pRetireN pEdgeN pUnlinkN)) m z = some (((), (), z.1.2.2.1, ()), z.2.1, z.2.2.1, z.2.2.2.1, ()) := by
 obtain ⟨⟨_, _, a, x, _⟩, p, dd, ⟨o', _⟩, _⟩ := z
 obtain ⟨h, r, hh, e⟩ := hz
 cases e
 refine loopF_one hm ?_
 show pDropL1B pStoreN pFieldN pRetireN pEdgeN pUnlinkN a x _ _ _ false _ _ o' = _
 unfold pDropL1B
 cases (x != 0) <;> rfl
omit hg hh in
theorem dDropL2 {z : pDropL2E.X} (hz : Dead c got d (z.2.1, z.2.2.1, ())) {m : Nat} (hm : 0 < m) : loopF (pDropL2E.un (pDropL2B pStoreN pFieldN pRetireN pEdgeN pUnlinkN)) m z = some (((), z.1.2.2.1, ()), z.2.1, z.2.2.1, ()) := by
 obtain ⟨⟨_, _, a, x, _⟩, p, dd, ⟨o', _⟩, _⟩ := z
 obtain ⟨h, r, hh, e⟩ := hz
 cases e
 refine loopF_one hm ?_
 show pDropL2B pStoreN pFieldN pRetireN pEdgeN pUnlinkN a x _ _ _ false _ _ o' = _
 unfold pDropL2B
 cases (x != 0) <;> rfl
omit hg hh in
theorem dDropL3 {z : pDropL3E.X} (hz : Dead c got d (z.2.1, z.2.2.1, ())) {m : Nat} (hm : 0 < m) : loopF (pDropL3E.un (pDropL3B pFieldN pRetireN)) m z = some (((), z.1.2.1, ()), z.2.1, z.2.2.1, ()) := by
 obtain ⟨⟨_, a, x, _⟩, p, dd, _⟩ := z
 obtain ⟨h, r, hh, e⟩ := hz
 cases e
 refine loopF_one hm ?_
 show pDropL3B pFieldN pRetireN a x _ _ _ false _ _ = _
 unfold pDropL3B
 cases (x != 0) <;> rfl
noncomputable abbrev dropG : pDropL0E.fin.Y → Option pDropE.Y := fun z => selim z (fun z => (pDirN ((z.2.2.2.1.1.a, ()), ())).bind fun z3 => (pStoreN (((), z3.1.1, 0, ()), z.2.1, z.2.2.1, ())).bind fun z4 => (pFieldN (((), 1, z.1.2.2.1, 1, ()), z4.2.1, z4.2.2.1, ())).bind fun z5 => (pDropL1N (((), (), z.1.2.2.1, z5.1.1, ()), z5.2.1, z5.2.2.1, (z.2.2.2.1.1, ()), ())).bind fun z => (pFieldN (((), 1, z.1.2.2.1, 2, ()), z.2.1, z.2.2.1, ())).bind fun z6 => (pDropL2N (((), (), z.1.2.2.1, z6.1.1, ()), z6.2.1, z6.2.2.1, (z.2.2.2.1.1, ()), ())).bind fun z => (pFieldN (((), 1, z.1.2.1, 3, ()), z.2.1, z.2.2.1, ())).bind fun z7 => (pDropL3N (((), z.1.2.1, z7.1.1, ()), z7.2.1, z7.2.2.1, ())).bind fun z => (pRetireN (((), 1, z.1.2.1, ()), z.2.1, z.2.2.1, ())).bind fun z => (pLeaveN (((), Res.mk 0 0 [] [] [], ()), z.2.1, z.2.2.1, ())).bind fun z => some ((), z.2.1, z.2.2.1, ())) fun z => some ((), z.2.1, z.2.2.1, ())
def dropRest (n x1 : Int) (c : Cfg) (got h : List Int) : T Res :=
 (setTr (w64 (n + 1)) 0 c got h).bind fun _ =>
 (gone1Tr 1 x1 (Sid.mk 1 3 1 2) c got h n).bind fun _ =>
 (gone2Tr 1 x1 (Sid.mk 2 4 2 1) c got h n).bind fun _ =>
 (loadTr 1 x1 3 c got h).bind fun x6 =>
 (T.loop (dropL0Step c got h (Res.mk 0 0 [] [] []) 1 x1 3) (got.length + 10) x6).bind fun _ =>
 (retireTr 1 x1 c got h).bind fun _ => finTr (Res.mk 0 0 [] [] [], h)
omit hg hh in
theorem dDropF {y : pDropL0E.fin.Y} (hy : match y with | .inl y => Dead c got d (y.2.1, y.2.2.1, ()) | .inr y => Dead c got d y.2) : Gets (dropG y) (DD c got d) := by
 cases y with
 | inr y => exact ⟨_, rfl, hy⟩
 | inl y =>
  show Gets (selim _ _ _) _
  simp only [F.tree, doT, frT, xA, xC, xT, xO, xS, yI, yR, zI, zR, xI, xR, yB, bne, cond_true, cond_false, Bool.not_true, Bool.not_false, Option.bind_assoc, Option.bind_some, zB]
  dsimp only at hy
  repeat' (first|(with_reducible first|refine Yd (by assumption) fun z hz =>?_|refine Yv ?_|refine Yg (by (refine decide_eq_true ?_; simp only [List.length_cons, List.length_nil, List.length_append]; omega)) ?_|refine Yc (fun _ =>?_) fun _ =>?_|refine Yl (by assumption) fun z hz =>?_|refine Ya (by assumption) fun z hz hl =>?_|refine Yq (pWi _ _ (by simp; omega) (Nat.le_trans (Dead.held (by assumption)) (by decide))) ?_|refine Yw (by assumption) ?_|refine Yq (pSp _ (by first | assumption | omega | simp)) ?_|refine Yq (pSe _ (by first | assumption | omega | simp)) ?_)|(refine Ys ?_; assumption)|(refine Ys ⟨by assumption, ?_⟩; simp; omega))
  refine Yq (dDropL1 (by assumption) FU0) ?_
  simp only [F.tree, doT, frT, xA, xC, xT, xO, xS, yI, yR, zI, zR, xI, xR, yB, bne, cond_true, cond_false, Bool.not_true, Bool.not_false, Option.bind_assoc, Option.bind_some, zB]
  repeat' (first|(with_reducible first|refine Yd (by assumption) fun z hz =>?_|refine Yv ?_|refine Yg (by (refine decide_eq_true ?_; simp only [List.length_cons, List.length_nil, List.length_append]; omega)) ?_|refine Yc (fun _ =>?_) fun _ =>?_|refine Yl (by assumption) fun z hz =>?_|refine Ya (by assumption) fun z hz hl =>?_|refine Yq (pWi _ _ (by simp; omega) (Nat.le_trans (Dead.held (by assumption)) (by decide))) ?_|refine Yw (by assumption) ?_|refine Yq (pSp _ (by first | assumption | omega | simp)) ?_|refine Yq (pSe _ (by first | assumption | omega | simp)) ?_)|(refine Ys ?_; assumption)|(refine Ys ⟨by assumption, ?_⟩; simp; omega))
  refine Yq (dDropL2 (by assumption) FU0) ?_
  simp only [F.tree, doT, frT, xA, xC, xT, xO, xS, yI, yR, zI, zR, xI, xR, yB, bne, cond_true, cond_false, Bool.not_true, Bool.not_false, Option.bind_assoc, Option.bind_some, zB]
  repeat' (first|(with_reducible first|refine Yd (by assumption) fun z hz =>?_|refine Yv ?_|refine Yg (by (refine decide_eq_true ?_; simp only [List.length_cons, List.length_nil, List.length_append]; omega)) ?_|refine Yc (fun _ =>?_) fun _ =>?_|refine Yl (by assumption) fun z hz =>?_|refine Ya (by assumption) fun z hz hl =>?_|refine Yq (pWi _ _ (by simp; omega) (Nat.le_trans (Dead.held (by assumption)) (by decide))) ?_|refine Yw (by assumption) ?_|refine Yq (pSp _ (by first | assumption | omega | simp)) ?_|refine Yq (pSe _ (by first | assumption | omega | simp)) ?_)|(refine Ys ?_; assumption)|(refine Ys ⟨by assumption, ?_⟩; simp; omega))
  refine Yq (dDropL3 (by assumption) FU0) ?_
  simp only [F.tree, doT, frT, xA, xC, xT, xO, xS, yI, yR, zI, zR, xI, xR, yB, bne, cond_true, cond_false, Bool.not_true, Bool.not_false, Option.bind_assoc, Option.bind_some, zB]
  repeat' (first|(with_reducible first|refine Yd (by assumption) fun z hz =>?_|refine Yv ?_|refine Yg (by (refine decide_eq_true ?_; simp only [List.length_cons, List.length_nil, List.length_append]; omega)) ?_|refine Yc (fun _ =>?_) fun _ =>?_|refine Yl (by assumption) fun z hz =>?_|refine Ya (by assumption) fun z hz hl =>?_|refine Yq (pWi _ _ (by simp; omega) (Nat.le_trans (Dead.held (by assumption)) (by decide))) ?_|refine Yw (by assumption) ?_|refine Yq (pSp _ (by first | assumption | omega | simp)) ?_|refine Yq (pSe _ (by first | assumption | omega | simp)) ?_)|(refine Ys ?_; assumption)|(refine Ys ⟨by assumption, ?_⟩; simp; omega))
theorem DropL1_sim {o : Opn} {x1 y : Int} : Sim ((T.loop (gone1L0Step c got h o.a 2) (got.length + 10) y).exec got d) (pDropL1N (((), (), x1, y, ()), (c, got, (), h, true, r, ()), d, (o, ()), ())) (fun _ d z => z = (((), (), x1, ()), (c, got, (), h, true, r, ()), d, (o, ()), ())) (fun d z => Dead c got d (z.2.1, z.2.2.1, ())) := by
 refine Sim.loopU 1 (R := fun y d z => z = (((), (), x1, y, ()), (c, got, (), h, true, r, ()), d, (o, ()), ())) (E := fun d z => Dead c got d (z.2.1, z.2.2.1, ())) (by have := hg.h; unfold FU; omega) (fun y d z hz =>?_) (fun d z hz => ⟨_, dDropL1 hz (by decide), hz⟩) rfl
 subst hz
 show Sim _ (pDropL1B pStoreN pFieldN pRetireN pEdgeN pUnlinkN x1 y c got h true r d o) _ _
 unfold pDropL1B gone1L0Step gone1L0B goneC2F goneC2B goneC3F goneC3B
 simp only [F.tree, doT, frT, xA, xC, xT, xO, xS, yI, yR, zI, zR, xI, xR, yB, bne, cond_true, cond_false, Bool.not_true, Bool.not_false, Option.bind_assoc, Option.bind_some, zB]
 repeat' (first|(with_reducible first|refine Yd (by assumption) fun z hz =>?_|refine Yv ?_|refine Yg (by (refine decide_eq_true ?_; simp only [List.length_cons, List.length_nil, List.length_append]; omega)) ?_|refine Yc (fun _ =>?_) fun _ =>?_|refine Zs (fun x d hd =>?_) fun d z hz =>?_|refine Zv ?_|refine Zc (fun _ =>?_) fun _ =>?_|refine Zl (fun d =>?_) fun d z hz =>?_|exact Ze|refine Zk (fun d =>?_) fun d z hz =>?_|refine Zf (fun d =>?_) fun d z hz =>?_|refine Za (by assumption) (fun l d hl =>?_) (fun d z hz hl =>?_)|refine Zq (pWi _ _ (by simp; omega) (by simp; omega)) ?_|refine Zw ?_|refine Zq (pSp _ (by omega)) ?_|refine Zq (pSe _ (by omega)) ?_|refine Zt ?_|refine Zu ?_|refine Zn (fun _ =>?_) fun _ =>?_|refine Zo (fun _ =>?_) fun _ =>?_|refine Zg fun _ =>?_|exact Zb|refine Yl (by assumption) fun z hz =>?_|refine Ya (by assumption) fun z hz hl =>?_|refine Yq (pWi _ _ (by simp; omega) (Nat.le_trans (Dead.held (by assumption)) (by decide))) ?_|refine Yw (by assumption) ?_|refine Yq (pSp _ (by first | assumption | omega | simp)) ?_|refine Yq (pSe _ (by first | assumption | omega | simp)) ?_)|(refine Zr ?_;first|exact rfl|exact ⟨rfl, rfl⟩|exact ⟨rfl, by simp; omega⟩)|(refine Ys ?_; assumption)|(refine Ys ⟨by assumption, ?_⟩; simp; omega))
theorem DropL2_sim {o : Opn} {x1 y : Int} : Sim ((T.loop (gone2L0Step c got h o.a 2) (got.length + 10) y).exec got d) (pDropL2N (((), (), x1, y, ()), (c, got, (), h, true, r, ()), d, (o, ()), ())) (fun _ d z => z = (((), x1, ()), (c, got, (), h, true, r, ()), d, ())) (fun d z => Dead c got d (z.2.1, z.2.2.1, ())) := by
 refine Sim.loopU 1 (R := fun y d z => z = (((), (), x1, y, ()), (c, got, (), h, true, r, ()), d, (o, ()), ())) (E := fun d z => Dead c got d (z.2.1, z.2.2.1, ())) (by have := hg.h; unfold FU; omega) (fun y d z hz =>?_) (fun d z hz => ⟨_, dDropL2 hz (by decide), hz⟩) rfl
 subst hz
 show Sim _ (pDropL2B pStoreN pFieldN pRetireN pEdgeN pUnlinkN x1 y c got h true r d o) _ _
 unfold pDropL2B gone2L0Step gone2L0B goneC4F goneC4B goneC5F goneC5B
 simp only [F.tree, doT, frT, xA, xC, xT, xO, xS, yI, yR, zI, zR, xI, xR, yB, bne, cond_true, cond_false, Bool.not_true, Bool.not_false, Option.bind_assoc, Option.bind_some, zB]
 repeat' (first|(with_reducible first|refine Yd (by assumption) fun z hz =>?_|refine Yv ?_|refine Yg (by (refine decide_eq_true ?_; simp only [List.length_cons, List.length_nil, List.length_append]; omega)) ?_|refine Yc (fun _ =>?_) fun _ =>?_|refine Zs (fun x d hd =>?_) fun d z hz =>?_|refine Zv ?_|refine Zc (fun _ =>?_) fun _ =>?_|refine Zl (fun d =>?_) fun d z hz =>?_|exact Ze|refine Zk (fun d =>?_) fun d z hz =>?_|refine Zf (fun d =>?_) fun d z hz =>?_|refine Za (by assumption) (fun l d hl =>?_) (fun d z hz hl =>?_)|refine Zq (pWi _ _ (by simp; omega) (by simp; omega)) ?_|refine Zw ?_|refine Zq (pSp _ (by omega)) ?_|refine Zq (pSe _ (by omega)) ?_|refine Zt ?_|refine Zu ?_|refine Zn (fun _ =>?_) fun _ =>?_|refine Zo (fun _ =>?_) fun _ =>?_|refine Zg fun _ =>?_|exact Zb|refine Yl (by assumption) fun z hz =>?_|refine Ya (by assumption) fun z hz hl =>?_|refine Yq (pWi _ _ (by simp; omega) (Nat.le_trans (Dead.held (by assumption)) (by decide))) ?_|refine Yw (by assumption) ?_|refine Yq (pSp _ (by first | assumption | omega | simp)) ?_|refine Yq (pSe _ (by first | assumption | omega | simp)) ?_)|(refine Zr ?_;first|exact rfl|exact ⟨rfl, rfl⟩|exact ⟨rfl, by simp; omega⟩)|(refine Ys ?_; assumption)|(refine Ys ⟨by assumption, ?_⟩; simp; omega))
theorem DropL3_sim {x1 y : Int} : Sim ((T.loop (dropL0Step c got h (Res.mk 0 0 [] [] []) 1 x1 3) (got.length + 10) y).exec got d) (pDropL3N (((), x1, y, ()), (c, got, (), h, true, r, ()), d, ())) (fun _ d z => z = (((), x1, ()), (c, got, (), h, true, r, ()), d, ())) (fun d z => Dead c got d (z.2.1, z.2.2.1, ())) := by
 refine Sim.loopU 1 (R := fun y d z => z = (((), x1, y, ()), (c, got, (), h, true, r, ()), d, ())) (E := fun d z => Dead c got d (z.2.1, z.2.2.1, ())) (by have := hg.h; unfold FU; omega) (fun y d z hz =>?_) (fun d z hz => ⟨_, dDropL3 hz (by decide), hz⟩) rfl
 subst hz
 show Sim _ (pDropL3B pFieldN pRetireN x1 y c got h true r d) _ _
 unfold pDropL3B dropL0Step dropL0B
 simp only [F.tree, doT, frT, xA, xC, xT, xO, xS, yI, yR, zI, zR, xI, xR, yB, bne, cond_true, cond_false, Bool.not_true, Bool.not_false, Option.bind_assoc, Option.bind_some, zB]
 repeat' (first|(with_reducible first|refine Yd (by assumption) fun z hz =>?_|refine Yv ?_|refine Yg (by (refine decide_eq_true ?_; simp only [List.length_cons, List.length_nil, List.length_append]; omega)) ?_|refine Yc (fun _ =>?_) fun _ =>?_|refine Zs (fun x d hd =>?_) fun d z hz =>?_|refine Zv ?_|refine Zc (fun _ =>?_) fun _ =>?_|refine Zl (fun d =>?_) fun d z hz =>?_|exact Ze|refine Zk (fun d =>?_) fun d z hz =>?_|refine Zf (fun d =>?_) fun d z hz =>?_|refine Za (by assumption) (fun l d hl =>?_) (fun d z hz hl =>?_)|refine Zq (pWi _ _ (by simp; omega) (by simp; omega)) ?_|refine Zw ?_|refine Zq (pSp _ (by omega)) ?_|refine Zq (pSe _ (by omega)) ?_|refine Zt ?_|refine Zu ?_|refine Zn (fun _ =>?_) fun _ =>?_|refine Zo (fun _ =>?_) fun _ =>?_|refine Zg fun _ =>?_|exact Zb|refine Yl (by assumption) fun z hz =>?_|refine Ya (by assumption) fun z hz hl =>?_|refine Yq (pWi _ _ (by simp; omega) (Nat.le_trans (Dead.held (by assumption)) (by decide))) ?_|refine Yw (by assumption) ?_|refine Yq (pSp _ (by first | assumption | omega | simp)) ?_|refine Yq (pSe _ (by first | assumption | omega | simp)) ?_)|(refine Zr ?_;first|exact rfl|exact ⟨rfl, rfl⟩|exact ⟨rfl, by simp; omega⟩)|(refine Ys ?_; assumption)|(refine Ys ⟨by assumption, ?_⟩; simp; omega))
theorem dropRest_sim {o : Opn} {x1 : Int} : Sim ((dropRest o.a x1 c got h).exec got d) (dropG (.inl (((), (), x1, ()), (c, got, (), h, true, r, ()), d, (o, ()), ()))) (Ov c got ()) (DD c got) := by
 show Sim _ (selim _ _ _) _ _
 unfold dropRest gone1Tr gone1F gone1B gone2Tr gone2F gone2B gone1L0F gone2L0F
 simp only [F.tree, doT, frT, xA, xC, xT, xO, xS, yI, yR, zI, zR, xI, xR, yB, bne, cond_true, cond_false, Bool.not_true, Bool.not_false, Option.bind_assoc, Option.bind_some, zB]
 repeat' (first|(with_reducible first|refine Yd (by assumption) fun z hz =>?_|refine Yv ?_|refine Yg (by (refine decide_eq_true ?_; simp only [List.length_cons, List.length_nil, List.length_append]; omega)) ?_|refine Yc (fun _ =>?_) fun _ =>?_|refine Zs (fun x d hd =>?_) fun d z hz =>?_|refine Zv ?_|refine Zc (fun _ =>?_) fun _ =>?_|refine Zl (fun d =>?_) fun d z hz =>?_|exact Ze|refine Zk (fun d =>?_) fun d z hz =>?_|refine Zf (fun d =>?_) fun d z hz =>?_|refine Za (by assumption) (fun l d hl =>?_) (fun d z hz hl =>?_)|refine Zq (pWi _ _ (by simp; omega) (by simp; omega)) ?_|refine Zw ?_|refine Zq (pSp _ (by omega)) ?_|refine Zq (pSe _ (by omega)) ?_|refine Zt ?_|refine Zu ?_|refine Zn (fun _ =>?_) fun _ =>?_|refine Zo (fun _ =>?_) fun _ =>?_|refine Zg fun _ =>?_|exact Zb|refine Yl (by assumption) fun z hz =>?_|refine Ya (by assumption) fun z hz hl =>?_|refine Yq (pWi _ _ (by simp; omega) (Nat.le_trans (Dead.held (by assumption)) (by decide))) ?_|refine Yw (by assumption) ?_|refine Yq (pSp _ (by first | assumption | omega | simp)) ?_|refine Yq (pSe _ (by first | assumption | omega | simp)) ?_)|(refine Zr ?_;first|exact rfl|exact ⟨rfl, rfl⟩|exact ⟨rfl, by simp; omega⟩)|(refine Ys ?_; assumption)|(refine Ys ⟨by assumption, ?_⟩; simp; omega))
 ·refine Sim.bind (y := pDropL1N _) DropL1_sim (fun _ d z hz =>?_) (fun d z hz =>?_)
  ·subst hz
   repeat' (first|(with_reducible first|refine Yd (by assumption) fun z hz =>?_|refine Yv ?_|refine Yg (by (refine decide_eq_true ?_; simp only [List.length_cons, List.length_nil, List.length_append]; omega)) ?_|refine Yc (fun _ =>?_) fun _ =>?_|refine Zs (fun x d hd =>?_) fun d z hz =>?_|refine Zv ?_|refine Zc (fun _ =>?_) fun _ =>?_|refine Zl (fun d =>?_) fun d z hz =>?_|exact Ze|refine Zk (fun d =>?_) fun d z hz =>?_|refine Zf (fun d =>?_) fun d z hz =>?_|refine Za (by assumption) (fun l d hl =>?_) (fun d z hz hl =>?_)|refine Zq (pWi _ _ (by simp; omega) (by simp; omega)) ?_|refine Zw ?_|refine Zq (pSp _ (by omega)) ?_|refine Zq (pSe _ (by omega)) ?_|refine Zt ?_|refine Zu ?_|refine Zn (fun _ =>?_) fun _ =>?_|refine Zo (fun _ =>?_) fun _ =>?_|refine Zg fun _ =>?_|exact Zb|refine Yl (by assumption) fun z hz =>?_|refine Ya (by assumption) fun z hz hl =>?_|refine Yq (pWi _ _ (by simp; omega) (Nat.le_trans (Dead.held (by assumption)) (by decide))) ?_|refine Yw (by assumption) ?_|refine Yq (pSp _ (by first | assumption | omega | simp)) ?_|refine Yq (pSe _ (by first | assumption | omega | simp)) ?_)|(refine Zr ?_;first|exact rfl|exact ⟨rfl, rfl⟩|exact ⟨rfl, by simp; omega⟩)|(refine Ys ?_; assumption)|(refine Ys ⟨by assumption, ?_⟩; simp; omega))
   ·refine Sim.bind (y := pDropL2N _) DropL2_sim (fun _ d z hz =>?_) (fun d z hz =>?_)
    ·subst hz
     repeat' (first|(with_reducible first|refine Yd (by assumption) fun z hz =>?_|refine Yv ?_|refine Yg (by (refine decide_eq_true ?_; simp only [List.length_cons, List.length_nil, List.length_append]; omega)) ?_|refine Yc (fun _ =>?_) fun _ =>?_|refine Zs (fun x d hd =>?_) fun d z hz =>?_|refine Zv ?_|refine Zc (fun _ =>?_) fun _ =>?_|refine Zl (fun d =>?_) fun d z hz =>?_|exact Ze|refine Zk (fun d =>?_) fun d z hz =>?_|refine Zf (fun d =>?_) fun d z hz =>?_|refine Za (by assumption) (fun l d hl =>?_) (fun d z hz hl =>?_)|refine Zq (pWi _ _ (by simp; omega) (by simp; omega)) ?_|refine Zw ?_|refine Zq (pSp _ (by omega)) ?_|refine Zq (pSe _ (by omega)) ?_|refine Zt ?_|refine Zu ?_|refine Zn (fun _ =>?_) fun _ =>?_|refine Zo (fun _ =>?_) fun _ =>?_|refine Zg fun _ =>?_|exact Zb|refine Yl (by assumption) fun z hz =>?_|refine Ya (by assumption) fun z hz hl =>?_|refine Yq (pWi _ _ (by simp; omega) (Nat.le_trans (Dead.held (by assumption)) (by decide))) ?_|refine Yw (by assumption) ?_|refine Yq (pSp _ (by first | assumption | omega | simp)) ?_|refine Yq (pSe _ (by first | assumption | omega | simp)) ?_)|(refine Zr ?_;first|exact rfl|exact ⟨rfl, rfl⟩|exact ⟨rfl, by simp; omega⟩)|(refine Ys ?_; assumption)|(refine Ys ⟨by assumption, ?_⟩; simp; omega))
     ·refine Sim.bind (y := pDropL3N _) DropL3_sim (fun _ d z hz =>?_) (fun d z hz =>?_)
      ·subst hz
       repeat' (first|(with_reducible first|refine Yd (by assumption) fun z hz =>?_|refine Yv ?_|refine Yg (by (refine decide_eq_true ?_; simp only [List.length_cons, List.length_nil, List.length_append]; omega)) ?_|refine Yc (fun _ =>?_) fun _ =>?_|refine Zs (fun x d hd =>?_) fun d z hz =>?_|refine Zv ?_|refine Zc (fun _ =>?_) fun _ =>?_|refine Zl (fun d =>?_) fun d z hz =>?_|exact Ze|refine Zk (fun d =>?_) fun d z hz =>?_|refine Zf (fun d =>?_) fun d z hz =>?_|refine Za (by assumption) (fun l d hl =>?_) (fun d z hz hl =>?_)|refine Zq (pWi _ _ (by simp; omega) (by simp; omega)) ?_|refine Zw ?_|refine Zq (pSp _ (by omega)) ?_|refine Zq (pSe _ (by omega)) ?_|refine Zt ?_|refine Zu ?_|refine Zn (fun _ =>?_) fun _ =>?_|refine Zo (fun _ =>?_) fun _ =>?_|refine Zg fun _ =>?_|exact Zb|refine Yl (by assumption) fun z hz =>?_|refine Ya (by assumption) fun z hz hl =>?_|refine Yq (pWi _ _ (by simp; omega) (Nat.le_trans (Dead.held (by assumption)) (by decide))) ?_|refine Yw (by assumption) ?_|refine Yq (pSp _ (by first | assumption | omega | simp)) ?_|refine Yq (pSe _ (by first | assumption | omega | simp)) ?_)|(refine Zr ?_;first|exact rfl|exact ⟨rfl, rfl⟩|exact ⟨rfl, by simp; omega⟩)|(refine Ys ?_; assumption)|(refine Ys ⟨by assumption, ?_⟩; simp; omega))
      ·repeat' (first|(with_reducible first|refine Yd (by assumption) fun z hz =>?_|refine Yv ?_|refine Yg (by (refine decide_eq_true ?_; simp only [List.length_cons, List.length_nil, List.length_append]; omega)) ?_|refine Yc (fun _ =>?_) fun _ =>?_|refine Yl (by assumption) fun z hz =>?_|refine Ya (by assumption) fun z hz hl =>?_|refine Yq (pWi _ _ (by simp; omega) (Nat.le_trans (Dead.held (by assumption)) (by decide))) ?_|refine Yw (by assumption) ?_|refine Yq (pSp _ (by first | assumption | omega | simp)) ?_|refine Yq (pSe _ (by first | assumption | omega | simp)) ?_)|(refine Ys ?_; assumption)|(refine Ys ⟨by assumption, ?_⟩; simp; omega))
     ·refine Yq (dDropL3 (by assumption) FU0) ?_
      simp only [F.tree, doT, frT, xA, xC, xT, xO, xS, yI, yR, zI, zR, xI, xR, yB, bne, cond_true, cond_false, Bool.not_true, Bool.not_false, Option.bind_assoc, Option.bind_some, zB]
      repeat' (first|(with_reducible first|refine Yd (by assumption) fun z hz =>?_|refine Yv ?_|refine Yg (by (refine decide_eq_true ?_; simp only [List.length_cons, List.length_nil, List.length_append]; omega)) ?_|refine Yc (fun _ =>?_) fun _ =>?_|refine Yl (by assumption) fun z hz =>?_|refine Ya (by assumption) fun z hz hl =>?_|refine Yq (pWi _ _ (by simp; omega) (Nat.le_trans (Dead.held (by assumption)) (by decide))) ?_|refine Yw (by assumption) ?_|refine Yq (pSp _ (by first | assumption | omega | simp)) ?_|refine Yq (pSe _ (by first | assumption | omega | simp)) ?_)|(refine Ys ?_; assumption)|(refine Ys ⟨by assumption, ?_⟩; simp; omega))
    ·repeat' (first|(with_reducible first|refine Yd (by assumption) fun z hz =>?_|refine Yv ?_|refine Yg (by (refine decide_eq_true ?_; simp only [List.length_cons, List.length_nil, List.length_append]; omega)) ?_|refine Yc (fun _ =>?_) fun _ =>?_|refine Yl (by assumption) fun z hz =>?_|refine Ya (by assumption) fun z hz hl =>?_|refine Yq (pWi _ _ (by simp; omega) (Nat.le_trans (Dead.held (by assumption)) (by decide))) ?_|refine Yw (by assumption) ?_|refine Yq (pSp _ (by first | assumption | omega | simp)) ?_|refine Yq (pSe _ (by first | assumption | omega | simp)) ?_)|(refine Ys ?_; assumption)|(refine Ys ⟨by assumption, ?_⟩; simp; omega))
     refine Yq (dDropL3 (by assumption) FU0) ?_
     simp only [F.tree, doT, frT, xA, xC, xT, xO, xS, yI, yR, zI, zR, xI, xR, yB, bne, cond_true, cond_false, Bool.not_true, Bool.not_false, Option.bind_assoc, Option.bind_some, zB]
     repeat' (first|(with_reducible first|refine Yd (by assumption) fun z hz =>?_|refine Yv ?_|refine Yg (by (refine decide_eq_true ?_; simp only [List.length_cons, List.length_nil, List.length_append]; omega)) ?_|refine Yc (fun _ =>?_) fun _ =>?_|refine Yl (by assumption) fun z hz =>?_|refine Ya (by assumption) fun z hz hl =>?_|refine Yq (pWi _ _ (by simp; omega) (Nat.le_trans (Dead.held (by assumption)) (by decide))) ?_|refine Yw (by assumption) ?_|refine Yq (pSp _ (by first | assumption | omega | simp)) ?_|refine Yq (pSe _ (by first | assumption | omega | simp)) ?_)|(refine Ys ?_; assumption)|(refine Ys ⟨by assumption, ?_⟩; simp; omega))
   ·refine Yq (dDropL2 (by assumption) FU0) ?_
    simp only [F.tree, doT, frT, xA, xC, xT, xO, xS, yI, yR, zI, zR, xI, xR, yB, bne, cond_true, cond_false, Bool.not_true, Bool.not_false, Option.bind_assoc, Option.bind_some, zB]
    repeat' (first|(with_reducible first|refine Yd (by assumption) fun z hz =>?_|refine Yv ?_|refine Yg (by (refine decide_eq_true ?_; simp only [List.length_cons, List.length_nil, List.length_append]; omega)) ?_|refine Yc (fun _ =>?_) fun _ =>?_|refine Yl (by assumption) fun z hz =>?_|refine Ya (by assumption) fun z hz hl =>?_|refine Yq (pWi _ _ (by simp; omega) (Nat.le_trans (Dead.held (by assumption)) (by decide))) ?_|refine Yw (by assumption) ?_|refine Yq (pSp _ (by first | assumption | omega | simp)) ?_|refine Yq (pSe _ (by first | assumption | omega | simp)) ?_)|(refine Ys ?_; assumption)|(refine Ys ⟨by assumption, ?_⟩; simp; omega))
    refine Yq (dDropL3 (by assumption) FU0) ?_
    simp only [F.tree, doT, frT, xA, xC, xT, xO, xS, yI, yR, zI, zR, xI, xR, yB, bne, cond_true, cond_false, Bool.not_true, Bool.not_false, Option.bind_assoc, Option.bind_some, zB]
    repeat' (first|(with_reducible first|refine Yd (by assumption) fun z hz =>?_|refine Yv ?_|refine Yg (by (refine decide_eq_true ?_; simp only [List.length_cons, List.length_nil, List.length_append]; omega)) ?_|refine Yc (fun _ =>?_) fun _ =>?_|refine Yl (by assumption) fun z hz =>?_|refine Ya (by assumption) fun z hz hl =>?_|refine Yq (pWi _ _ (by simp; omega) (Nat.le_trans (Dead.held (by assumption)) (by decide))) ?_|refine Yw (by assumption) ?_|refine Yq (pSp _ (by first | assumption | omega | simp)) ?_|refine Yq (pSe _ (by first | assumption | omega | simp)) ?_)|(refine Ys ?_; assumption)|(refine Ys ⟨by assumption, ?_⟩; simp; omega))
  ·repeat' (first|(with_reducible first|refine Yd (by assumption) fun z hz =>?_|refine Yv ?_|refine Yg (by (refine decide_eq_true ?_; simp only [List.length_cons, List.length_nil, List.length_append]; omega)) ?_|refine Yc (fun _ =>?_) fun _ =>?_|refine Yl (by assumption) fun z hz =>?_|refine Ya (by assumption) fun z hz hl =>?_|refine Yq (pWi _ _ (by simp; omega) (Nat.le_trans (Dead.held (by assumption)) (by decide))) ?_|refine Yw (by assumption) ?_|refine Yq (pSp _ (by first | assumption | omega | simp)) ?_|refine Yq (pSe _ (by first | assumption | omega | simp)) ?_)|(refine Ys ?_; assumption)|(refine Ys ⟨by assumption, ?_⟩; simp; omega))
   refine Yq (dDropL2 (by assumption) FU0) ?_
   simp only [F.tree, doT, frT, xA, xC, xT, xO, xS, yI, yR, zI, zR, xI, xR, yB, bne, cond_true, cond_false, Bool.not_true, Bool.not_false, Option.bind_assoc, Option.bind_some, zB]
   repeat' (first|(with_reducible first|refine Yd (by assumption) fun z hz =>?_|refine Yv ?_|refine Yg (by (refine decide_eq_true ?_; simp only [List.length_cons, List.length_nil, List.length_append]; omega)) ?_|refine Yc (fun _ =>?_) fun _ =>?_|refine Yl (by assumption) fun z hz =>?_|refine Ya (by assumption) fun z hz hl =>?_|refine Yq (pWi _ _ (by simp; omega) (Nat.le_trans (Dead.held (by assumption)) (by decide))) ?_|refine Yw (by assumption) ?_|refine Yq (pSp _ (by first | assumption | omega | simp)) ?_|refine Yq (pSe _ (by first | assumption | omega | simp)) ?_)|(refine Ys ?_; assumption)|(refine Ys ⟨by assumption, ?_⟩; simp; omega))
   refine Yq (dDropL3 (by assumption) FU0) ?_
   simp only [F.tree, doT, frT, xA, xC, xT, xO, xS, yI, yR, zI, zR, xI, xR, yB, bne, cond_true, cond_false, Bool.not_true, Bool.not_false, Option.bind_assoc, Option.bind_some, zB]
   repeat' (first|(with_reducible first|refine Yd (by assumption) fun z hz =>?_|refine Yv ?_|refine Yg (by (refine decide_eq_true ?_; simp only [List.length_cons, List.length_nil, List.length_append]; omega)) ?_|refine Yc (fun _ =>?_) fun _ =>?_|refine Yl (by assumption) fun z hz =>?_|refine Ya (by assumption) fun z hz hl =>?_|refine Yq (pWi _ _ (by simp; omega) (Nat.le_trans (Dead.held (by assumption)) (by decide))) ?_|refine Yw (by assumption) ?_|refine Yq (pSp _ (by first | assumption | omega | simp)) ?_|refine Yq (pSe _ (by first | assumption | omega | simp)) ?_)|(refine Ys ?_; assumption)|(refine Ys ⟨by assumption, ?_⟩; simp; omega))
 all_goals
  refine Yq (dDropL1 (by assumption) FU0) ?_
  simp only [F.tree, doT, frT, xA, xC, xT, xO, xS, yI, yR, zI, zR, xI, xR, yB, bne, cond_true, cond_false, Bool.not_true, Bool.not_false, Option.bind_assoc, Option.bind_some, zB]
  repeat' (first|(with_reducible first|refine Yd (by assumption) fun z hz =>?_|refine Yv ?_|refine Yg (by (refine decide_eq_true ?_; simp only [List.length_cons, List.length_nil, List.length_append]; omega)) ?_|refine Yc (fun _ =>?_) fun _ =>?_|refine Yl (by assumption) fun z hz =>?_|refine Ya (by assumption) fun z hz hl =>?_|refine Yq (pWi _ _ (by simp; omega) (Nat.le_trans (Dead.held (by assumption)) (by decide))) ?_|refine Yw (by assumption) ?_|refine Yq (pSp _ (by first | assumption | omega | simp)) ?_|refine Yq (pSe _ (by first | assumption | omega | simp)) ?_)|(refine Ys ?_; assumption)|(refine Ys ⟨by assumption, ?_⟩; simp; omega))
  refine Yq (dDropL2 (by assumption) FU0) ?_
  simp only [F.tree, doT, frT, xA, xC, xT, xO, xS, yI, yR, zI, zR, xI, xR, yB, bne, cond_true, cond_false, Bool.not_true, Bool.not_false, Option.bind_assoc, Option.bind_some, zB]
  repeat' (first|(with_reducible first|refine Yd (by assumption) fun z hz =>?_|refine Yv ?_|refine Yg (by (refine decide_eq_true ?_; simp only [List.length_cons, List.length_nil, List.length_append]; omega)) ?_|refine Yc (fun _ =>?_) fun _ =>?_|refine Yl (by assumption) fun z hz =>?_|refine Ya (by assumption) fun z hz hl =>?_|refine Yq (pWi _ _ (by simp; omega) (Nat.le_trans (Dead.held (by assumption)) (by decide))) ?_|refine Yw (by assumption) ?_|refine Yq (pSp _ (by first | assumption | omega | simp)) ?_|refine Yq (pSe _ (by first | assumption | omega | simp)) ?_)|(refine Ys ?_; assumption)|(refine Ys ⟨by assumption, ?_⟩; simp; omega))
  refine Yq (dDropL3 (by assumption) FU0) ?_
  simp only [F.tree, doT, frT, xA, xC, xT, xO, xS, yI, yR, zI, zR, xI, xR, yB, bne, cond_true, cond_false, Bool.not_true, Bool.not_false, Option.bind_assoc, Option.bind_some, zB]
  repeat' (first|(with_reducible first|refine Yd (by assumption) fun z hz =>?_|refine Yv ?_|refine Yg (by (refine decide_eq_true ?_; simp only [List.length_cons, List.length_nil, List.length_append]; omega)) ?_|refine Yc (fun _ =>?_) fun _ =>?_|refine Yl (by assumption) fun z hz =>?_|refine Ya (by assumption) fun z hz hl =>?_|refine Yq (pWi _ _ (by simp; omega) (Nat.le_trans (Dead.held (by assumption)) (by decide))) ?_|refine Yw (by assumption) ?_|refine Yq (pSp _ (by first | assumption | omega | simp)) ?_|refine Yq (pSe _ (by first | assumption | omega | simp)) ?_)|(refine Ys ?_; assumption)|(refine Ys ⟨by assumption, ?_⟩; simp; omega))
end
section
variable {c : Cfg} {got h : List Int} [hg : Bd got] [hh : Bd h] {r : Res} {d : List Acc}
omit hg hh in
theorem dDropL0 {z : pDropL0E.X} (hz : Dead c got d (z.2.1, z.2.2.1, ())) {m : Nat} (hm : 0 < m) : loopF (pDropL0E.un (pDropL0B pWithinN pFailedN pDirN pLoadN pLatchN pFreeN pLeaveN pAroundN)) m z = some (.inl (((), (), z.1.2.2.1, ()), z.2.1, z.2.2.1, z.2.2.2.1, ())) := by
 obtain ⟨⟨_, _, a, _, _⟩, p, dd, ⟨o', _⟩, l, _⟩ := z
 obtain ⟨h, r, hh, e⟩ := hz
 cases e
 refine loopF_one hm ?_
 rfl
omit hg hh in
theorem drop_eq {n : Int} : (dropTr n c got []).bind finTr = bif !kn c n then finTr (Res.mk 2 0 [] [] [], []) else (findTr n c got []).bind fun x0 => bif x0 == 0 then finTr (Res.mk 2 0 [] [] [], []) else
  (aroundTr 1 x0 c got []).bind fun x2 => bif decide (x2.length + [n].length ≤ 1000000000) then
   (T.loop (holdDL0Step n [n] c got 0 0) (got.length + 10) ([], 1, x0, x2 ++ [n])).bind fun x3 => bif !x3.1 then finTr (Res.mk 2 0 [] [] [], x3.2.1) else dropRest n x3.2.2 c got x3.2.1
  else .bot := by
 unfold dropTr dropF dropB holdDF holdDB dropRest dropL0F holdDL0F
 dsimp only [F.tree, doT, frT]
 rw [known1]
 simp only [F.tree, doT, frT, xA, xC, xT, xO, xS, yI, yR, zI, zR, xI, xR, yB, bne, cond_true, cond_false, Bool.not_true, Bool.not_false, Option.bind_assoc, Option.bind_some, zB]
theorem pDrop_sim (hgot : got.length ≤ 900000) {o : Opn} : Sim (((dropTr o.a c got []).bind finTr).exec got d) (pDropN (((), o, ()), ps c got [] true r d)) (Ov c got ()) (DD c got) := by
 rw [drop_eq]
 show Sim _ (pDropB pWithinN pFailedN pDirN pLoadN pStoreN pFieldN pRetireN pEdgeN pKnownN pLatchN pFreeN pLeaveN pAroundN pUnlinkN pDropL0N pDropL1N pDropL2N pDropL3N o c got [] true r d) _ _
 unfold pDropB
 change Sim _ ((pKnownN _).bind fun z => bif !z.1.1 then _ else (pDirN _).bind fun z1 => (pLoadN _).bind fun z => bif z.1.1 == 0 then _ else (pAroundN _).bind fun z2 => bif decide _ then (pDropL0N _).bind dropG else none) _ _
 generalize hF : dropG = Fd
 have hFr : ∀ y, Fd (.inr y) = some ((), y.2.1, y.2.2.1, ()) := fun y => by rw [← hF]; rfl
 repeat' (first|(with_reducible first|refine Yd (by assumption) fun z hz =>?_|refine Yv ?_|refine Yg (by (refine decide_eq_true ?_; simp only [List.length_cons, List.length_nil, List.length_append]; omega)) ?_|refine Yc (fun _ =>?_) fun _ =>?_|refine Zs (fun x d hd =>?_) fun d z hz =>?_|refine Zv ?_|refine Zc (fun _ =>?_) fun _ =>?_|refine Zl (fun d =>?_) fun d z hz =>?_|exact Ze|refine Zk (fun d =>?_) fun d z hz =>?_|refine Zf (fun d =>?_) fun d z hz =>?_|refine Za (by assumption) (fun l d hl =>?_) (fun d z hz hl =>?_)|refine Zq (pWi _ _ (by simp; omega) (by simp; omega)) ?_|refine Zw ?_|refine Zq (pSp _ (by omega)) ?_|refine Zq (pSe _ (by omega)) ?_|refine Zt ?_|refine Zu ?_|refine Zn (fun _ =>?_) fun _ =>?_|refine Zo (fun _ =>?_) fun _ =>?_|refine Zg fun _ =>?_|exact Zb|refine Yl (by assumption) fun z hz =>?_|refine Ya (by assumption) fun z hz hl =>?_|refine Yq (pWi _ _ (by simp; omega) (Nat.le_trans (Dead.held (by assumption)) (by decide))) ?_|refine Yw (by assumption) ?_|refine Yq (pSp _ (by first | assumption | omega | simp)) ?_|refine Yq (pSe _ (by first | assumption | omega | simp)) ?_)|(refine Zr ?_;first|exact rfl|exact ⟨rfl, rfl⟩|exact ⟨rfl, by simp; omega⟩)|(refine Ys ?_; assumption)|(refine Ys ⟨by assumption, ?_⟩; simp; omega))
 ·refine Sim.loopK (fun st d z => z = (((), (), st.2.2.1, (), ()), (c, got, (), [], true, r, ()), d, (o, ()), st.2.2.2, ()) ∧ st.1 = [] ∧ st.2.2.2.length ≤ 900001) (fun d z => Dead c got d (z.2.1, z.2.2.1, ())) 1 (by unfold FU; omega) ⟨rfl, rfl, by simp; omega⟩ (fun d z hz => Yq (dDropL0 hz (by decide)) ?_) ?_
  ·rw [← hF]
   exact dDropF hz
  ·rintro ⟨_, w, v, set⟩ d z ⟨rfl, (rfl : _ = []), hs⟩
   dsimp only at hs
   haveI : Bd set := ⟨by omega⟩
   have hos := Nat.le_trans (ordSet_len set) hs
   show Sim _ ((pDropL0B pWithinN pFailedN pDirN pLoadN pLatchN pFreeN pLeaveN pAroundN v c got [] true r d o set).bind _) _ _
   unfold pDropL0B holdDL0Step holdDL0B
   simp only [F.tree, doT, frT, xA, xC, xT, xO, xS, yI, yR, zI, zR, xI, xR, yB, bne, cond_true, cond_false, Bool.not_true, Bool.not_false, Option.bind_assoc, Option.bind_some, zB]
   simp only [hFr, Option.bind_some]
   repeat' (first|(with_reducible first|refine Yd (by assumption) fun z hz =>?_|refine Yv ?_|refine Yg (by (refine decide_eq_true ?_; simp only [List.length_cons, List.length_nil, List.length_append]; omega)) ?_|refine Yc (fun _ =>?_) fun _ =>?_|refine Zs (fun x d hd =>?_) fun d z hz =>?_|refine Zv ?_|refine Zc (fun _ =>?_) fun _ =>?_|refine Zl (fun d =>?_) fun d z hz =>?_|exact Ze|refine Zk (fun d =>?_) fun d z hz =>?_|refine Zf (fun d =>?_) fun d z hz =>?_|refine Za (by assumption) (fun l d hl =>?_) (fun d z hz hl =>?_)|refine Zq (pWi _ _ (by simp; omega) (by simp; omega)) ?_|refine Zw ?_|refine Zq (pSp _ (by omega)) ?_|refine Zq (pSe _ (by omega)) ?_|refine Zt ?_|refine Zu ?_|refine Zn (fun _ =>?_) fun _ =>?_|refine Zo (fun _ =>?_) fun _ =>?_|refine Zg fun _ =>?_|exact Zb|refine Yl (by assumption) fun z hz =>?_|refine Ya (by assumption) fun z hz hl =>?_|refine Yq (pWi _ _ (by simp; omega) (Nat.le_trans (Dead.held (by assumption)) (by decide))) ?_|refine Yw (by assumption) ?_|refine Yq (pSp _ (by first | assumption | omega | simp)) ?_|refine Yq (pSe _ (by first | assumption | omega | simp)) ?_)|(refine Zr ?_;first|exact rfl|exact ⟨rfl, rfl⟩|exact ⟨rfl, by simp; omega⟩)|(refine Ys ?_; assumption)|(refine Ys ⟨by assumption, ?_⟩; simp; omega))
   all_goals
    subst hF
    first
    |exact Sim.bind dropRest_sim (fun x d z hz => by cases hz; exact Zr rfl) (fun d z hz => Ys hz)
    |exact Gets.bind (dDropF (by assumption)) (fun z hz => Ys hz)
 all_goals
  refine Yq (dDropL0 (by assumption) FU0) ?_
  rw [← hF]
  exact dDropF (by assumption)
end
set_option maxHeartbeats 4000000
section
variable {c : Cfg} {got h : List Int} [hg : Bd got] [hh : Bd h] {r : Res} {d : List Acc}
omit hg hh in
theorem dMoveL {z : pMoveL0E.X} (hz : Dead c got d (z.2.1, z.2.2.1, ())) {m : Nat} (hm : 0 < m) : loopF (pMoveL0E.un (pMoveL0B pFieldN pPutN)) m z = some (((), z.1.2.1, z.1.2.2.1, z.1.2.2.2.1, z.1.2.2.2.2.2.2.1, z.1.2.2.2.2.2.2.2.1, ()), z.2.1, z.2.2.1, ()) := by
 obtain ⟨⟨_, a1, a2, a3, a4, a5, a6, a7, x, _⟩, p, dd, _⟩ := z
 obtain ⟨h, r, hh, e⟩ := hz
 cases e
 refine loopF_one hm ?_
 show pMoveL0B pFieldN pPutN a1 a2 a3 a4 a5 a6 a7 x _ _ _ false _ _ = _
 unfold pMoveL0B
 cases (x != 0) <;> rfl
instance : DOk pMoveN := ⟨fun {c got d a s} hs => by
 show Gets (pMoveB pFieldN pPutN pMoveL0N _ _ _ _ _ _ _ _ _ _ _ _) _
 unfold pMoveB
 repeat' (first|(with_reducible first|refine Yd (by assumption) fun z hz =>?_|refine Yv ?_|refine Yg (by (refine decide_eq_true ?_; simp only [List.length_cons, List.length_nil, List.length_append]; omega)) ?_|refine Yc (fun _ =>?_) fun _ =>?_|refine Yl (by assumption) fun z hz =>?_|refine Ya (by assumption) fun z hz hl =>?_|refine Yq (pWi _ _ (by simp; omega) (Nat.le_trans (Dead.held (by assumption)) (by decide))) ?_|refine Yw (by assumption) ?_|refine Yq (pSp _ (by first | assumption | omega | simp)) ?_|refine Yq (pSe _ (by first | assumption | omega | simp)) ?_)|(refine Ys ?_; assumption)|(refine Ys ⟨by assumption, ?_⟩; simp; omega))
 refine Yq (dMoveL (by assumption) FU0) ?_
 repeat' (first|(with_reducible first|refine Yd (by assumption) fun z hz =>?_|refine Yv ?_|refine Yg (by (refine decide_eq_true ?_; simp only [List.length_cons, List.length_nil, List.length_append]; omega)) ?_|refine Yc (fun _ =>?_) fun _ =>?_|refine Yl (by assumption) fun z hz =>?_|refine Ya (by assumption) fun z hz hl =>?_|refine Yq (pWi _ _ (by simp; omega) (Nat.le_trans (Dead.held (by assumption)) (by decide))) ?_|refine Yw (by assumption) ?_|refine Yq (pSp _ (by first | assumption | omega | simp)) ?_|refine Yq (pSe _ (by first | assumption | omega | simp)) ?_)|(refine Ys ?_; assumption)|(refine Ys ⟨by assumption, ?_⟩; simp; omega))⟩
def moveTr (a b id v0 v6 v7 v8 v9 v10 v11 v12 v13 v14 : Int) (s : Sid) (c : Cfg) (got held : List Int) : T Unit :=
 (loadTr 1 b s.head c got held).bind fun x2 =>
 (T.loop (fuseL1Step v0 v6 v7 v8 v9 v10 v11 v12 v13 v14 c got held id (Res.mk 0 0 [] [] []) 1 a 1 b s 2) (got.length + 10) (2, 0, 2, 0, x2)).bind fun x4 =>
 bif !x4.2.1 == 0 then
 (loadTr 1 a s.head c got held).bind fun x6 =>
 (storeTr x4.2.2.1 x4.2.2.2 s.link x6 c got held).bind fun _ =>
 (storeTr 1 a s.head x4.2.1 c got held).bind fun _ =>
 .ret ()
 else .ret ()
theorem move_sim {a b id v0 v6 v7 v8 v9 v10 v11 v12 v13 v14 : Int} {s : Sid} : Sim ((moveTr a b id v0 v6 v7 v8 v9 v10 v11 v12 v13 v14 s c got h).exec got d) (pMoveN (((), a, b, s.head, s.link, s.own, id, ()), ps c got h true r d)) (fun _ => Lv c got h r ()) (DD c got) := by
 show Sim _ (pMoveB pFieldN pPutN pMoveL0N a b s.head s.link s.own id c got h true r d) _ _
 unfold pMoveB moveTr
 simp only [F.tree, doT, frT, xA, xC, xT, xO, xS, yI, yR, zI, zR, xI, xR, yB, bne, cond_true, cond_false, Bool.not_true, Bool.not_false, Option.bind_assoc, Option.bind_some, zB]
 repeat' (first|(with_reducible first|refine Yd (by assumption) fun z hz =>?_|refine Yv ?_|refine Yg (by (refine decide_eq_true ?_; simp only [List.length_cons, List.length_nil, List.length_append]; omega)) ?_|refine Yc (fun _ =>?_) fun _ =>?_|refine Zs (fun x d hd =>?_) fun d z hz =>?_|refine Zv ?_|refine Zc (fun _ =>?_) fun _ =>?_|refine Zl (fun d =>?_) fun d z hz =>?_|exact Ze|refine Zk (fun d =>?_) fun d z hz =>?_|refine Zf (fun d =>?_) fun d z hz =>?_|refine Za (by assumption) (fun l d hl =>?_) (fun d z hz hl =>?_)|refine Zq (pWi _ _ (by simp; omega) (by simp; omega)) ?_|refine Zw ?_|refine Zq (pSp _ (by omega)) ?_|refine Zq (pSe _ (by omega)) ?_|refine Zt ?_|refine Zu ?_|refine Zn (fun _ =>?_) fun _ =>?_|refine Zo (fun _ =>?_) fun _ =>?_|refine Zg fun _ =>?_|exact Zb|refine Yl (by assumption) fun z hz =>?_|refine Ya (by assumption) fun z hz hl =>?_|refine Yq (pWi _ _ (by simp; omega) (Nat.le_trans (Dead.held (by assumption)) (by decide))) ?_|refine Yw (by assumption) ?_|refine Yq (pSp _ (by first | assumption | omega | simp)) ?_|refine Yq (pSe _ (by first | assumption | omega | simp)) ?_)|(refine Zr ?_;first|exact rfl|exact ⟨rfl, rfl⟩|exact ⟨rfl, by simp; omega⟩)|(refine Ys ?_; assumption)|(refine Ys ⟨by assumption, ?_⟩; simp; omega))
 ·generalize x = f at *
  refine Sim.loopK (fun st d z => z = (((), a, s.head, s.link, s.own, id, f, st.2.2.2.1, st.2.2.2.2, ()), (c, got, (), h, true, r, ()), d, ()) ∧ st.1 = 2 ∧ st.2.2.1 = 2 ∧ ((st.2.1 = 0 ∧ st.2.2.2.2 = f) ∨ (st.2.1 = f ∧ f ≠ 0))) (fun d z => Dead c got d (z.2.1, z.2.2.1, ())) 1 (by have := hg.h; unfold FU; omega) ⟨rfl, rfl, rfl, .inl ⟨rfl, rfl⟩⟩ (fun d z hz => Yq (dMoveL hz (by decide)) ?_) ?_
  ·simp only [F.tree, doT, frT, xA, xC, xT, xO, xS, yI, yR, zI, zR, xI, xR, yB, bne, cond_true, cond_false, Bool.not_true, Bool.not_false, Option.bind_assoc, Option.bind_some, zB]
   repeat' (first|(with_reducible first|refine Yd (by assumption) fun z hz =>?_|refine Yv ?_|refine Yg (by (refine decide_eq_true ?_; simp only [List.length_cons, List.length_nil, List.length_append]; omega)) ?_|refine Yc (fun _ =>?_) fun _ =>?_|refine Yl (by assumption) fun z hz =>?_|refine Ya (by assumption) fun z hz hl =>?_|refine Yq (pWi _ _ (by simp; omega) (Nat.le_trans (Dead.held (by assumption)) (by decide))) ?_|refine Yw (by assumption) ?_|refine Yq (pSp _ (by first | assumption | omega | simp)) ?_|refine Yq (pSe _ (by first | assumption | omega | simp)) ?_)|(refine Ys ?_; assumption)|(refine Ys ⟨by assumption, ?_⟩; simp; omega))
  ·rintro ⟨_, fi, _, la, y⟩ d z ⟨rfl, (rfl : _ = (2 : Int)), (rfl : _ = (2 : Int)), hf⟩
   dsimp only at hf
   show Sim _ ((pMoveL0B pFieldN pPutN a s.head s.link s.own id f la y c got h true r d).bind _) _ _
   unfold pMoveL0B fuseL1Step fuseL1B
   dsimp only [F.tree, doT, frT]
   by_cases hy : y = 0
   ·subst hy
    have hfi : fi = f := by omega
    subst hfi
    simp only [F.tree, doT, frT, xA, xC, xT, xO, xS, yI, yR, zI, zR, xI, xR, yB, bne, cond_true, cond_false, Bool.not_true, Bool.not_false, Option.bind_assoc, Option.bind_some, zB]
    simp only [show ((0 : Int) == 0) = true from rfl, Bool.not_true, cond_false]
    repeat' (first|(with_reducible first|refine Yd (by assumption) fun z hz =>?_|refine Yv ?_|refine Yg (by (refine decide_eq_true ?_; simp only [List.length_cons, List.length_nil, List.length_append]; omega)) ?_|refine Yc (fun _ =>?_) fun _ =>?_|refine Zs (fun x d hd =>?_) fun d z hz =>?_|refine Zv ?_|refine Zc (fun _ =>?_) fun _ =>?_|refine Zl (fun d =>?_) fun d z hz =>?_|exact Ze|refine Zk (fun d =>?_) fun d z hz =>?_|refine Zf (fun d =>?_) fun d z hz =>?_|refine Za (by assumption) (fun l d hl =>?_) (fun d z hz hl =>?_)|refine Zq (pWi _ _ (by simp; omega) (by simp; omega)) ?_|refine Zw ?_|refine Zq (pSp _ (by omega)) ?_|refine Zq (pSe _ (by omega)) ?_|refine Zt ?_|refine Zu ?_|refine Zn (fun _ =>?_) fun _ =>?_|refine Zo (fun _ =>?_) fun _ =>?_|refine Zg fun _ =>?_|exact Zb|refine Yl (by assumption) fun z hz =>?_|refine Ya (by assumption) fun z hz hl =>?_|refine Yq (pWi _ _ (by simp; omega) (Nat.le_trans (Dead.held (by assumption)) (by decide))) ?_|refine Yw (by assumption) ?_|refine Yq (pSp _ (by first | assumption | omega | simp)) ?_|refine Yq (pSe _ (by first | assumption | omega | simp)) ?_)|(refine Zr ?_;first|exact rfl|exact ⟨rfl, rfl⟩|exact ⟨rfl, by simp; omega⟩)|(refine Ys ?_; assumption)|(refine Ys ⟨by assumption, ?_⟩; simp; omega))
   ·have hy2 : (y == 0) = false := by simpa using hy
    by_cases h0 : fi = 0
    ·subst h0
     have hyf : y = f := by omega
     subst hyf
     simp only [F.tree, doT, frT, xA, xC, xT, xO, xS, yI, yR, zI, zR, xI, xR, yB, bne, cond_true, cond_false, Bool.not_true, Bool.not_false, Option.bind_assoc, Option.bind_some, zB]
     simp only [hy2, show ((0 : Int) == 0) = true from rfl, Bool.not_false, cond_true]
     repeat' (first|(with_reducible first|refine Yd (by assumption) fun z hz =>?_|refine Yv ?_|refine Yg (by (refine decide_eq_true ?_; simp only [List.length_cons, List.length_nil, List.length_append]; omega)) ?_|refine Yc (fun _ =>?_) fun _ =>?_|refine Zs (fun x d hd =>?_) fun d z hz =>?_|refine Zv ?_|refine Zc (fun _ =>?_) fun _ =>?_|refine Zl (fun d =>?_) fun d z hz =>?_|exact Ze|refine Zk (fun d =>?_) fun d z hz =>?_|refine Zf (fun d =>?_) fun d z hz =>?_|refine Za (by assumption) (fun l d hl =>?_) (fun d z hz hl =>?_)|refine Zq (pWi _ _ (by simp; omega) (by simp; omega)) ?_|refine Zw ?_|refine Zq (pSp _ (by omega)) ?_|refine Zq (pSe _ (by omega)) ?_|refine Zt ?_|refine Zu ?_|refine Zn (fun _ =>?_) fun _ =>?_|refine Zo (fun _ =>?_) fun _ =>?_|refine Zg fun _ =>?_|exact Zb|refine Yl (by assumption) fun z hz =>?_|refine Ya (by assumption) fun z hz hl =>?_|refine Yq (pWi _ _ (by simp; omega) (Nat.le_trans (Dead.held (by assumption)) (by decide))) ?_|refine Yw (by assumption) ?_|refine Yq (pSp _ (by first | assumption | omega | simp)) ?_|refine Yq (pSe _ (by first | assumption | omega | simp)) ?_)|(refine Zr ?_;first|exact rfl|exact ⟨rfl, rfl⟩|exact ⟨rfl, by simp; omega⟩)|(refine Ys ?_; assumption)|(refine Ys ⟨by assumption, ?_⟩; simp; omega))
     all_goals exact Zr ⟨rfl, rfl, rfl, .inr ⟨rfl, hy⟩⟩
    ·have h0' : (fi == 0) = false := by simpa using h0
     have hff : fi = f ∧ f ≠ 0 := by omega
     simp only [F.tree, doT, frT, xA, xC, xT, xO, xS, yI, yR, zI, zR, xI, xR, yB, bne, cond_true, cond_false, Bool.not_true, Bool.not_false, Option.bind_assoc, Option.bind_some, zB]
     simp only [hy2, h0', Bool.not_false, cond_true, cond_false]
     repeat' (first|(with_reducible first|refine Yd (by assumption) fun z hz =>?_|refine Yv ?_|refine Yg (by (refine decide_eq_true ?_; simp only [List.length_cons, List.length_nil, List.length_append]; omega)) ?_|refine Yc (fun _ =>?_) fun _ =>?_|refine Zs (fun x d hd =>?_) fun d z hz =>?_|refine Zv ?_|refine Zc (fun _ =>?_) fun _ =>?_|refine Zl (fun d =>?_) fun d z hz =>?_|exact Ze|refine Zk (fun d =>?_) fun d z hz =>?_|refine Zf (fun d =>?_) fun d z hz =>?_|refine Za (by assumption) (fun l d hl =>?_) (fun d z hz hl =>?_)|refine Zq (pWi _ _ (by simp; omega) (by simp; omega)) ?_|refine Zw ?_|refine Zq (pSp _ (by omega)) ?_|refine Zq (pSe _ (by omega)) ?_|refine Zt ?_|refine Zu ?_|refine Zn (fun _ =>?_) fun _ =>?_|refine Zo (fun _ =>?_) fun _ =>?_|refine Zg fun _ =>?_|exact Zb|refine Yl (by assumption) fun z hz =>?_|refine Ya (by assumption) fun z hz hl =>?_|refine Yq (pWi _ _ (by simp; omega) (Nat.le_trans (Dead.held (by assumption)) (by decide))) ?_|refine Yw (by assumption) ?_|refine Yq (pSp _ (by first | assumption | omega | simp)) ?_|refine Yq (pSe _ (by first | assumption | omega | simp)) ?_)|(refine Zr ?_;first|exact rfl|exact ⟨rfl, rfl⟩|exact ⟨rfl, by simp; omega⟩)|(refine Ys ?_; assumption)|(refine Ys ⟨by assumption, ?_⟩; simp; omega))
     all_goals exact Zr ⟨rfl, rfl, rfl, .inr hff⟩
 ·refine Yq (dMoveL (by assumption) FU0) ?_
  simp only [F.tree, doT, frT, xA, xC, xT, xO, xS, yI, yR, zI, zR, xI, xR, yB, bne, cond_true, cond_false, Bool.not_true, Bool.not_false, Option.bind_assoc, Option.bind_some, zB]
  repeat' (first|(with_reducible first|refine Yd (by assumption) fun z hz =>?_|refine Yv ?_|refine Yg (by (refine decide_eq_true ?_; simp only [List.length_cons, List.length_nil, List.length_append]; omega)) ?_|refine Yc (fun _ =>?_) fun _ =>?_|refine Yl (by assumption) fun z hz =>?_|refine Ya (by assumption) fun z hz hl =>?_|refine Yq (pWi _ _ (by simp; omega) (Nat.le_trans (Dead.held (by assumption)) (by decide))) ?_|refine Yw (by assumption) ?_|refine Yq (pSp _ (by first | assumption | omega | simp)) ?_|refine Yq (pSe _ (by first | assumption | omega | simp)) ?_)|(refine Ys ?_; assumption)|(refine Ys ⟨by assumption, ?_⟩; simp; omega))
end
end Go.Ax.Cd
