/- Merged. -/
import Derived.Test.YteoeolfcpmalfaaGreatDoorQ31
namespace Go.Ax.Cd
open Go.Proofs
set_option linter.unusedVariables false
set_option maxRecDepth 100000
set_option linter.unusedSimpArgs false
set_option linter.unusedSectionVars false
set_option maxHeartbeats 4000000
section
variable {c : Cfg} {got h : List Int} [hg : Bd got] [hh : Bd h] {r : Res} {d : List Acc}
omit hg hh in
theorem dSetPL {z : pSetPL0E.X} (hz : Dead c got d (z.2.1, z.2.2.1, ())) {m : Nat} (hm : 0 < m) : loopF (pSetPL0E.un (pSetPL0B pFieldN pPutN pLeaveN)) m z = some (.inl (((), (), z.1.2.2.1, z.1.2.2.2.1, ()), z.2.1, z.2.2.1, z.2.2.2.1, ())) := by
 obtain ⟨⟨_, _, a, b, x, _⟩, p, dd, ⟨o', _⟩, _⟩ := z
 obtain ⟨h, r, hh, e⟩ := hz
 cases e
 refine loopF_one hm ?_
 show pSetPL0B pFieldN pPutN pLeaveN a b x _ _ _ false _ _ o' = _
 unfold pSetPL0B
 cases (x != 0) <;> rfl
theorem pSetP_sim {o : Opn} : Sim (((setPropTr o.a o.k o.v c got h).bind finTr).exec got d) (pSetPN (((), o, ()), ps c got h true r d)) (Ov c got ()) (DD c got) := by
 show Sim _ (pSetPB pFailedN pDirN pLoadN pFieldN pPutN pTakeN pKnownN pLatchN pLeaveN pSetPL0N o c got h true r d) _ _
 unfold pSetPB setPropTr setPropF setPropB walkSF walkSB walkSL0F
 dsimp only [F.tree, doT, frT]
 rw [known1]
 simp only [F.tree, doT, frT, xA, xC, xT, xO, xS, yI, yR, zI, zR, xI, xR, yB, bne, cond_true, cond_false, Bool.not_true, Bool.not_false, Option.bind_assoc, Option.bind_some, zB]
 repeat' (first|(with_reducible first|refine Yd (by assumption) fun z hz =>?_|refine Yv ?_|refine Yg (by (refine decide_eq_true ?_; simp only [List.length_cons, List.length_nil, List.length_append]; omega)) ?_|refine Yc (fun _ =>?_) fun _ =>?_|refine Zs (fun x d hd =>?_) fun d z hz =>?_|refine Zv ?_|refine Zc (fun _ =>?_) fun _ =>?_|refine Zl (fun d =>?_) fun d z hz =>?_|exact Ze|refine Zk (fun d =>?_) fun d z hz =>?_|refine Zf (fun d =>?_) fun d z hz =>?_|refine Za (by assumption) (fun l d hl =>?_) (fun d z hz hl =>?_)|refine Zq (pWi _ _ (by simp; omega) (by simp; omega)) ?_|refine Zw ?_|refine Zq (pSp _ (by omega)) ?_|refine Zq (pSe _ (by omega)) ?_|refine Zt ?_|refine Zu ?_|refine Zn (fun _ =>?_) fun _ =>?_|refine Zo (fun _ =>?_) fun _ =>?_|refine Zg fun _ =>?_|exact Zb|refine Yl (by assumption) fun z hz =>?_|refine Ya (by assumption) fun z hz hl =>?_|refine Yq (pWi _ _ (by simp; omega) (Nat.le_trans (Dead.held (by assumption)) (by decide))) ?_|refine Yw (by assumption) ?_|refine Yq (pSp _ (by first | assumption | omega | simp)) ?_|refine Yq (pSe _ (by first | assumption | omega | simp)) ?_)|(refine Zr ?_;first|exact rfl|exact ⟨rfl, rfl⟩|exact ⟨rfl, by simp; omega⟩)|(refine Ys ?_; assumption)|(refine Ys ⟨by assumption, ?_⟩; simp; omega))
 ·rename_i x1 _ _ _
  refine Sim.loopK (fun st d z => z = (((), (), x1, x, st.2.2, ()), (c, got, (), ordSet [o.a], true, r, ()), d, (o, ()), ())) (fun d z => Dead c got d (z.2.1, z.2.2.1, ())) 1 (by have := hg.h; unfold FU; omega) rfl (fun d z hz => Yq (dSetPL hz (by decide)) ?_) ?_
  ·simp only [F.tree, doT, frT, xA, xC, xT, xO, xS, yI, yR, zI, zR, xI, xR, yB, bne, cond_true, cond_false, Bool.not_true, Bool.not_false, Option.bind_assoc, Option.bind_some, zB]
   repeat' (first|(with_reducible first|refine Yd (by assumption) fun z hz =>?_|refine Yv ?_|refine Yg (by (refine decide_eq_true ?_; simp only [List.length_cons, List.length_nil, List.length_append]; omega)) ?_|refine Yc (fun _ =>?_) fun _ =>?_|refine Yl (by assumption) fun z hz =>?_|refine Ya (by assumption) fun z hz hl =>?_|refine Yq (pWi _ _ (by simp; omega) (Nat.le_trans (Dead.held (by assumption)) (by decide))) ?_|refine Yw (by assumption) ?_|refine Yq (pSp _ (by first | assumption | omega | simp)) ?_|refine Yq (pSe _ (by first | assumption | omega | simp)) ?_)|(refine Ys ?_; assumption)|(refine Ys ⟨by assumption, ?_⟩; simp; omega))
  ·rintro ⟨_, _, y⟩ d z rfl
   show Sim _ ((pSetPL0B pFieldN pPutN pLeaveN x1 x y c got (ordSet [o.a]) true r d o).bind _) _ _
   unfold pSetPL0B walkSL0Step walkSL0B setCF setCB
   simp only [F.tree, doT, frT, xA, xC, xT, xO, xS, yI, yR, zI, zR, xI, xR, yB, bne, cond_true, cond_false, Bool.not_true, Bool.not_false, Option.bind_assoc, Option.bind_some, zB]
   repeat' (first|(with_reducible first|refine Yd (by assumption) fun z hz =>?_|refine Yv ?_|refine Yg (by (refine decide_eq_true ?_; simp only [List.length_cons, List.length_nil, List.length_append]; omega)) ?_|refine Yc (fun _ =>?_) fun _ =>?_|refine Zs (fun x d hd =>?_) fun d z hz =>?_|refine Zv ?_|refine Zc (fun _ =>?_) fun _ =>?_|refine Zl (fun d =>?_) fun d z hz =>?_|exact Ze|refine Zk (fun d =>?_) fun d z hz =>?_|refine Zf (fun d =>?_) fun d z hz =>?_|refine Za (by assumption) (fun l d hl =>?_) (fun d z hz hl =>?_)|refine Zq (pWi _ _ (by simp; omega) (by simp; omega)) ?_|refine Zw ?_|refine Zq (pSp _ (by omega)) ?_|refine Zq (pSe _ (by omega)) ?_|refine Zt ?_|refine Zu ?_|refine Zn (fun _ =>?_) fun _ =>?_|refine Zo (fun _ =>?_) fun _ =>?_|refine Zg fun _ =>?_|exact Zb|refine Yl (by assumption) fun z hz =>?_|refine Ya (by assumption) fun z hz hl =>?_|refine Yq (pWi _ _ (by simp; omega) (Nat.le_trans (Dead.held (by assumption)) (by decide))) ?_|refine Yw (by assumption) ?_|refine Yq (pSp _ (by first | assumption | omega | simp)) ?_|refine Yq (pSe _ (by first | assumption | omega | simp)) ?_)|(refine Zr ?_;first|exact rfl|exact ⟨rfl, rfl⟩|exact ⟨rfl, by simp; omega⟩)|(refine Ys ?_; assumption)|(refine Ys ⟨by assumption, ?_⟩; simp; omega))
 all_goals
  refine Yq (dSetPL (by assumption) FU0) ?_
  simp only [F.tree, doT, frT, xA, xC, xT, xO, xS, yI, yR, zI, zR, xI, xR, yB, bne, cond_true, cond_false, Bool.not_true, Bool.not_false, Option.bind_assoc, Option.bind_some, zB]
  repeat' (first|(with_reducible first|refine Yd (by assumption) fun z hz =>?_|refine Yv ?_|refine Yg (by (refine decide_eq_true ?_; simp only [List.length_cons, List.length_nil, List.length_append]; omega)) ?_|refine Yc (fun _ =>?_) fun _ =>?_|refine Yl (by assumption) fun z hz =>?_|refine Ya (by assumption) fun z hz hl =>?_|refine Yq (pWi _ _ (by simp; omega) (Nat.le_trans (Dead.held (by assumption)) (by decide))) ?_|refine Yw (by assumption) ?_|refine Yq (pSp _ (by first | assumption | omega | simp)) ?_|refine Yq (pSe _ (by first | assumption | omega | simp)) ?_)|(refine Ys ?_; assumption)|(refine Ys ⟨by assumption, ?_⟩; simp; omega))
omit hg hh in
theorem dDelL {z : pDelL0E.X} (hz : Dead c got d (z.2.1, z.2.2.1, ())) {m : Nat} (hm : 0 < m) : loopF (pDelL0E.un (pDelL0B pFieldN pPutN pRetireN pLeaveN)) m z = some (.inl (((), ()), z.2.1, z.2.2.1, ())) := by
 obtain ⟨⟨_, _, a, b, x, _⟩, p, dd, ⟨o', _⟩, _⟩ := z
 obtain ⟨h, r, hh, e⟩ := hz
 cases e
 refine loopF_one hm ?_
 show pDelL0B pFieldN pPutN pRetireN pLeaveN a b x _ _ _ false _ _ o' = _
 unfold pDelL0B
 cases (x != 0) <;> rfl
theorem pDel_sim {o : Opn} : Sim (((delPropTr o.a o.k c got h).bind finTr).exec got d) (pDelN (((), o, ()), ps c got h true r d)) (Ov c got ()) (DD c got) := by
 show Sim _ (pDelB pFailedN pDirN pLoadN pFieldN pPutN pRetireN pKnownN pLatchN pLeaveN pDelL0N o c got h true r d) _ _
 unfold pDelB delPropTr delPropF delPropB walkDF walkDB walkDL0F
 dsimp only [F.tree, doT, frT]
 rw [known1]
 simp only [F.tree, doT, frT, xA, xC, xT, xO, xS, yI, yR, zI, zR, xI, xR, yB, bne, cond_true, cond_false, Bool.not_true, Bool.not_false, Option.bind_assoc, Option.bind_some, zB]
 repeat' (first|(with_reducible first|refine Yd (by assumption) fun z hz =>?_|refine Yv ?_|refine Yg (by (refine decide_eq_true ?_; simp only [List.length_cons, List.length_nil, List.length_append]; omega)) ?_|refine Yc (fun _ =>?_) fun _ =>?_|refine Zs (fun x d hd =>?_) fun d z hz =>?_|refine Zv ?_|refine Zc (fun _ =>?_) fun _ =>?_|refine Zl (fun d =>?_) fun d z hz =>?_|exact Ze|refine Zk (fun d =>?_) fun d z hz =>?_|refine Zf (fun d =>?_) fun d z hz =>?_|refine Za (by assumption) (fun l d hl =>?_) (fun d z hz hl =>?_)|refine Zq (pWi _ _ (by simp; omega) (by simp; omega)) ?_|refine Zw ?_|refine Zq (pSp _ (by omega)) ?_|refine Zq (pSe _ (by omega)) ?_|refine Zt ?_|refine Zu ?_|refine Zn (fun _ =>?_) fun _ =>?_|refine Zo (fun _ =>?_) fun _ =>?_|refine Zg fun _ =>?_|exact Zb|refine Yl (by assumption) fun z hz =>?_|refine Ya (by assumption) fun z hz hl =>?_|refine Yq (pWi _ _ (by simp; omega) (Nat.le_trans (Dead.held (by assumption)) (by decide))) ?_|refine Yw (by assumption) ?_|refine Yq (pSp _ (by first | assumption | omega | simp)) ?_|refine Yq (pSe _ (by first | assumption | omega | simp)) ?_)|(refine Zr ?_;first|exact rfl|exact ⟨rfl, rfl⟩|exact ⟨rfl, by simp; omega⟩)|(refine Ys ?_; assumption)|(refine Ys ⟨by assumption, ?_⟩; simp; omega))
 ·rename_i x1 _ _ _
  refine Sim.loopK (fun st d z => z = (((), (), x1, st.2.1, st.2.2, ()), (c, got, (), ordSet [o.a], true, r, ()), d, (o, ()), ()) ∧ st.1 = 3) (fun d z => Dead c got d (z.2.1, z.2.2.1, ())) 1 (by have := hg.h; unfold FU; omega) ⟨rfl, rfl⟩ (fun d z hz => Yq (dDelL hz (by decide)) ?_) ?_
  ·simp only [F.tree, doT, frT, xA, xC, xT, xO, xS, yI, yR, zI, zR, xI, xR, yB, bne, cond_true, cond_false, Bool.not_true, Bool.not_false, Option.bind_assoc, Option.bind_some, zB]
   repeat' (first|(with_reducible first|refine Yd (by assumption) fun z hz =>?_|refine Yv ?_|refine Yg (by (refine decide_eq_true ?_; simp only [List.length_cons, List.length_nil, List.length_append]; omega)) ?_|refine Yc (fun _ =>?_) fun _ =>?_|refine Yl (by assumption) fun z hz =>?_|refine Ya (by assumption) fun z hz hl =>?_|refine Yq (pWi _ _ (by simp; omega) (Nat.le_trans (Dead.held (by assumption)) (by decide))) ?_|refine Yw (by assumption) ?_|refine Yq (pSp _ (by first | assumption | omega | simp)) ?_|refine Yq (pSe _ (by first | assumption | omega | simp)) ?_)|(refine Ys ?_; assumption)|(refine Ys ⟨by assumption, ?_⟩; simp; omega))
  ·rintro ⟨_, v, y⟩ d z ⟨rfl, (rfl : _ = (3 : Int))⟩
   show Sim _ ((pDelL0B pFieldN pPutN pRetireN pLeaveN x1 v y c got (ordSet [o.a]) true r d o).bind _) _ _
   unfold pDelL0B walkDL0Step walkDL0B delCF delCB
   simp only [F.tree, doT, frT, xA, xC, xT, xO, xS, yI, yR, zI, zR, xI, xR, yB, bne, cond_true, cond_false, Bool.not_true, Bool.not_false, Option.bind_assoc, Option.bind_some, zB]
   repeat' (first|(with_reducible first|refine Yd (by assumption) fun z hz =>?_|refine Yv ?_|refine Yg (by (refine decide_eq_true ?_; simp only [List.length_cons, List.length_nil, List.length_append]; omega)) ?_|refine Yc (fun _ =>?_) fun _ =>?_|refine Zs (fun x d hd =>?_) fun d z hz =>?_|refine Zv ?_|refine Zc (fun _ =>?_) fun _ =>?_|refine Zl (fun d =>?_) fun d z hz =>?_|exact Ze|refine Zk (fun d =>?_) fun d z hz =>?_|refine Zf (fun d =>?_) fun d z hz =>?_|refine Za (by assumption) (fun l d hl =>?_) (fun d z hz hl =>?_)|refine Zq (pWi _ _ (by simp; omega) (by simp; omega)) ?_|refine Zw ?_|refine Zq (pSp _ (by omega)) ?_|refine Zq (pSe _ (by omega)) ?_|refine Zt ?_|refine Zu ?_|refine Zn (fun _ =>?_) fun _ =>?_|refine Zo (fun _ =>?_) fun _ =>?_|refine Zg fun _ =>?_|exact Zb|refine Yl (by assumption) fun z hz =>?_|refine Ya (by assumption) fun z hz hl =>?_|refine Yq (pWi _ _ (by simp; omega) (Nat.le_trans (Dead.held (by assumption)) (by decide))) ?_|refine Yw (by assumption) ?_|refine Yq (pSp _ (by first | assumption | omega | simp)) ?_|refine Yq (pSe _ (by first | assumption | omega | simp)) ?_)|(refine Zr ?_;first|exact rfl|exact ⟨rfl, rfl⟩|exact ⟨rfl, by simp; omega⟩)|(refine Ys ?_; assumption)|(refine Ys ⟨by assumption, ?_⟩; simp; omega))
 all_goals
  refine Yq (dDelL (by assumption) FU0) ?_
  simp only [F.tree, doT, frT, xA, xC, xT, xO, xS, yI, yR, zI, zR, xI, xR, yB, bne, cond_true, cond_false, Bool.not_true, Bool.not_false, Option.bind_assoc, Option.bind_some, zB]
  repeat' (first|(with_reducible first|refine Yd (by assumption) fun z hz =>?_|refine Yv ?_|refine Yg (by (refine decide_eq_true ?_; simp only [List.length_cons, List.length_nil, List.length_append]; omega)) ?_|refine Yc (fun _ =>?_) fun _ =>?_|refine Yl (by assumption) fun z hz =>?_|refine Ya (by assumption) fun z hz hl =>?_|refine Yq (pWi _ _ (by simp; omega) (Nat.le_trans (Dead.held (by assumption)) (by decide))) ?_|refine Yw (by assumption) ?_|refine Yq (pSp _ (by first | assumption | omega | simp)) ?_|refine Yq (pSe _ (by first | assumption | omega | simp)) ?_)|(refine Ys ?_; assumption)|(refine Ys ⟨by assumption, ?_⟩; simp; omega))
end
set_option maxHeartbeats 1000000
section
variable {α : Type} {key : α → Int} {dv : α}
def insAt (key : α → Int) (dv x : α) (out : List α) : Nat → Nat
 | 0 => 0
 | n + 1 => if key (out.getD n dv) > key x then insAt key dv x out n else n + 1
theorem insAt_ok {x : α} {out : List α} : ∀ n, insAt key dv x out n ≤ n ∧ (∀ i, insAt key dv x out n ≤ i → i < n → key x < key (out.getD i dv)) ∧ (insAt key dv x out n = 0 ∨ key (out.getD (insAt key dv x out n - 1) dv) ≤ key x)
 | 0 => ⟨Nat.le_refl _, fun i h1 h2 => by omega, .inl rfl⟩
 | n + 1 => by
  simp only [insAt]
  split
  ·rename_i c
   obtain ⟨h1, h2, h3⟩ := insAt_ok (x := x) (out := out) n
   refine ⟨by omega, fun i k1 k2 =>?_, h3⟩
   rcases Nat.lt_or_ge i n with k | k
   ·exact h2 i k1 k
   ·obtain rfl : i = n := by omega
    exact c
  ·rename_i c
   exact ⟨Nat.le_refl _, fun i k1 k2 => by omega, .inr (by rw [Nat.add_sub_cancel]; omega)⟩
theorem getD_of {l : List α} {i : Nat} (h : i < l.length) : l.getD i dv = l[i] := by
 rw [List.getD_eq_getElem?_getD, List.getElem?_eq_getElem h]
 rfl
def insP (key : α → Int) (dv x : α) (out : List α) : List α := out.take (insAt key dv x out out.length) ++ [x] ++ out.drop (insAt key dv x out out.length)
theorem insP_ok {x : α} {out : List α} (h : Srt key out) : Srt key (insP key dv x out) ∧ SE key (insP key dv x out) (out ++ [x]) := by
 obtain ⟨h1, h2, h3⟩ := insAt_ok (key := key) (dv := dv) (x := x) (out := out) out.length
 unfold insP
 generalize insAt key dv x out out.length = at_ at *
 have ha : ∀ y ∈ out.take at_, key y ≤ key x := fun y hy => by
  obtain ⟨i, hi, rfl⟩ := List.getElem_of_mem hy
  simp only [List.length_take] at hi
  rw [List.getElem_take]
  rcases h3 with h3 | h3
  ·omega
  ·rw [getD_of (by omega)] at h3
   exact Int.le_trans (h.idx (j := at_ - 1) (by omega) (by omega)) h3
 have hb : ∀ y ∈ out.drop at_, key x < key y := fun y hy => by
  obtain ⟨i, hi, rfl⟩ := List.getElem_of_mem hy
  simp only [List.length_drop] at hi
  rw [List.getElem_drop]
  have := h2 (at_ + i) (by omega) (by omega)
  rwa [getD_of (by omega)] at this
 constructor
 ·refine Srt.app (Srt.app (h.sub (List.take_sublist _ _)) (by simp [Srt]) (fun y hy z hz =>?_)) (h.sub (List.drop_sublist _ _)) (fun y hy z hz =>?_)
  ·rw [List.mem_singleton.1 hz]; exact ha y hy
  ·have k := hb z hz
   rcases List.mem_append.1 hy with hy | hy
   ·have := ha y hy; omega
   ·rw [List.mem_singleton.1 hy]; omega
 ·rw [List.append_assoc]
  refine (SE.append (SE.refl _) (SE.swap (X := [x]) (Y := out.drop at_) (fun a h1 y hy =>?_))).trans ?_
  ·rw [List.mem_singleton.1 h1]
   have := hb y hy
   omega
  ·rw [← List.append_assoc, List.take_append_drop]
   exact SE.refl _
theorem insP_isort {x : α} {l : List α} : insP key dv x (isort key l) = isort key (l ++ [x]) := by
 obtain ⟨h1, h2⟩ := insP_ok (dv := dv) (x := x) (isort_srt (key := key) l)
 exact isort_eq h1 (h2.trans (SE.append (isort_SE l) (SE.refl _)))
end
theorem pSortPrL1_eq (v3 : List Pr) (v4 v5 : Int) (out : List Pr) (x : Pr) (ho : out.length ≤ 1000000000) : ∀ (n m : Nat), n ≤ out.length → n < m → loopF (pSortPrL1E.un pSortPrL1B) m (((), (), (n : Int), v3, v4, v5, ()), out, (x, ()), ()) = some (((), (), ((insAt Pr.k (EK.st SN.pr).dft x out n : Nat) : Int), v3, v4, v5, ()), out, (x, ()), ())
 | 0, m + 1, h, _ => by
  rw [loopF]
  show (pSortPrL1B 0 v3 v4 v5 out x).bind _ = _
  unfold pSortPrL1B
  rw [decide_eq_false (by decide)]
  rfl
 | n + 1, 0, h, h' => by omega
 | n + 1, m + 1, h, h' => by
  rw [loopF]
  show (pSortPrL1B ((n + 1 : Nat) : Int) v3 v4 v5 out x).bind _ = _
  unfold pSortPrL1B
  have e1 : w64 (((n + 1 : Nat) : Int) - 1) = (n : Int) := by rw [w64_id] <;> omega
  have e2 : rdE (EK.st SN.pr) out (n : Int) = out.getD n (EK.st SN.pr).dft := by simp [rd]
  rw [decide_eq_true (show ((n + 1 : Nat) : Int) > 0 by omega), e1, inR_ge (by omega), e2]
  simp only [insAt, cond_true]
  by_cases c : (out.getD n (EK.st SN.pr).dft).k > x.k
  ·rw [decide_eq_true c, if_pos c]
   exact pSortPrL1_eq v3 v4 v5 out x ho n m (by omega) (by omega)
  ·rw [decide_eq_false c, if_neg c]
   rfl
theorem pSp (l : List Pr) (hl : l.length ≤ 1000001) : pSortPrN ((l, ()), ()) = some ((sortPr l, ()), ()) := by
 have h0 : pSortPrL0N (((), l, Int.ofNat l.length, 0, ()), [], ()) = some (((), ()), sortPr l, ()) := by
  have h1 : sortPr (l.take l.length) = sortPr l := by rw [List.take_length]
  rw [← h1]
  refine loopF_at (fun j => (((), l, Int.ofNat l.length, (j : Int), ()), sortPr (l.take j), ())) (k := l.length) (by unfold FU; omega) (fun j hj =>?_) ?_
  ·show pSortPrL0B pSortPrL1N l (Int.ofNat l.length) (j : Int) (sortPr (l.take j)) = _
   have hlen : (sortPr (l.take j)).length = j := by
    unfold sortPr
    rw [isort_len, List.length_take]
    omega
   have hx : sortPr (l.take (j + 1)) = insP SPr.ky (EK.st SN.pr).dft l[j] (sortPr (l.take j)) := by
    unfold sortPr
    rw [insP_isort, List.take_add_one, List.getElem?_eq_getElem hj]
    rfl
   generalize hs : sortPr (l.take j) = out at *
   have e2 : rdE (EK.st SN.pr) l (j : Int) = l[j] := by simp [rd, hj]
   have h2 : pSortPrL1N (((), (), Int.ofNat out.length, l, Int.ofNat l.length, (j : Int), ()), out, (l[j], ()), ()) = some (((), (), ((insAt Pr.k (EK.st SN.pr).dft l[j] out out.length : Nat) : Int), l, Int.ofNat l.length, (j : Int), ()), out, (l[j], ()), ()) := pSortPrL1_eq _ _ _ out l[j] (by omega) out.length FU (Nat.le_refl _) (by unfold FU; omega)
   have hat := (insAt_ok (key := Pr.k) (dv := (EK.st SN.pr).dft) (x := l[j]) (out := out) out.length).1
   unfold pSortPrL0B
   rw [decide_eq_true (show (j : Int) < Int.ofNat l.length by simp; omega), inR_ge hj, e2, h2, hx]
   generalize hk : insAt Pr.k (EK.st SN.pr).dft l[j] out out.length = at_ at *
   have hk' : insAt SPr.ky (EK.st SN.pr).dft l[j] out out.length = at_ := hk
   show (bif decide (0 ≤ (at_ : Int)) && decide ((at_ : Int) ≤ Int.ofNat out.length) then bif decide (0 ≤ (at_ : Int)) && decide ((at_ : Int) ≤ Int.ofNat out.length) then bif decide ((out.take (Int.toNat at_)).length ≤ 1000000000) then bif decide ((out.take (Int.toNat at_)).length + 1 ≤ 1000000000) then bif decide ((out.take (Int.toNat at_) ++ [l[j]]).length + (List.drop (Int.toNat at_) (List.take (Int.ofNat out.length).toNat out)).length ≤ 1000000000) then some (Sum.inl (((), l, Int.ofNat l.length, w64 ((j : Int) + 1), ()), out.take (Int.toNat at_) ++ [l[j]] ++ List.drop (Int.toNat at_) (List.take (Int.ofNat out.length).toNat out), ())) else none else none else none else none else none) = _
   rw [show (decide (0 ≤ (at_ : Int)) && decide ((at_ : Int) ≤ Int.ofNat out.length)) = true by simp; omega, show Int.toNat (at_ : Int) = at_ from rfl, show (Int.ofNat out.length).toNat = out.length from rfl, List.take_length, w64_ix (by omega)]
   rw [decide_eq_true (by simp; omega), decide_eq_true (by simp; omega), decide_eq_true (by simp; omega)]
   unfold insP
   rw [hk']
   rfl
  ·show pSortPrL0B pSortPrL1N l (Int.ofNat l.length) (l.length : Int) (sortPr (l.take l.length)) = _
   unfold pSortPrL0B
   rw [decide_eq_false (by simp)]
   rfl
 show (pSortPrL0N (((), l, Int.ofNat l.length, 0, ()), [], ())).bind _ = _
 rw [h0]
 rfl
theorem pSortEnL1_eq (v3 : List En) (v4 v5 : Int) (out : List En) (x : En) (ho : out.length ≤ 1000000000) : ∀ (n m : Nat), n ≤ out.length → n < m → loopF (pSortEnL1E.un pSortEnL1B) m (((), (), (n : Int), v3, v4, v5, ()), out, (x, ()), ()) = some (((), (), ((insAt En.edge (EK.st SN.en).dft x out n : Nat) : Int), v3, v4, v5, ()), out, (x, ()), ())
 | 0, m + 1, h, _ => by
  rw [loopF]
  show (pSortEnL1B 0 v3 v4 v5 out x).bind _ = _
  unfold pSortEnL1B
  rw [decide_eq_false (by decide)]
  rfl
 | n + 1, 0, h, h' => by omega
 | n + 1, m + 1, h, h' => by
  rw [loopF]
  show (pSortEnL1B ((n + 1 : Nat) : Int) v3 v4 v5 out x).bind _ = _
  unfold pSortEnL1B
  have e1 : w64 (((n + 1 : Nat) : Int) - 1) = (n : Int) := by rw [w64_id] <;> omega
  have e2 : rdE (EK.st SN.en) out (n : Int) = out.getD n (EK.st SN.en).dft := by simp [rd]
  rw [decide_eq_true (show ((n + 1 : Nat) : Int) > 0 by omega), e1, inR_ge (by omega), e2]
  simp only [insAt, cond_true]
  by_cases c : (out.getD n (EK.st SN.en).dft).edge > x.edge
  ·rw [decide_eq_true c, if_pos c]
   exact pSortEnL1_eq v3 v4 v5 out x ho n m (by omega) (by omega)
  ·rw [decide_eq_false c, if_neg c]
   rfl
theorem pSe (l : List En) (hl : l.length ≤ 1000001) : pSortEnN ((l, ()), ()) = some ((sortEn l, ()), ()) := by
 have h0 : pSortEnL0N (((), l, Int.ofNat l.length, 0, ()), [], ()) = some (((), ()), sortEn l, ()) := by
  have h1 : sortEn (l.take l.length) = sortEn l := by rw [List.take_length]
  rw [← h1]
  refine loopF_at (fun j => (((), l, Int.ofNat l.length, (j : Int), ()), sortEn (l.take j), ())) (k := l.length) (by unfold FU; omega) (fun j hj =>?_) ?_
  ·show pSortEnL0B pSortEnL1N l (Int.ofNat l.length) (j : Int) (sortEn (l.take j)) = _
   have hlen : (sortEn (l.take j)).length = j := by
    unfold sortEn
    rw [isort_len, List.length_take]
    omega
   have hx : sortEn (l.take (j + 1)) = insP SEn.ky (EK.st SN.en).dft l[j] (sortEn (l.take j)) := by
    unfold sortEn
    rw [insP_isort, List.take_add_one, List.getElem?_eq_getElem hj]
    rfl
   generalize hs : sortEn (l.take j) = out at *
   have e2 : rdE (EK.st SN.en) l (j : Int) = l[j] := by simp [rd, hj]
   have h2 : pSortEnL1N (((), (), Int.ofNat out.length, l, Int.ofNat l.length, (j : Int), ()), out, (l[j], ()), ()) = some (((), (), ((insAt En.edge (EK.st SN.en).dft l[j] out out.length : Nat) : Int), l, Int.ofNat l.length, (j : Int), ()), out, (l[j], ()), ()) := pSortEnL1_eq _ _ _ out l[j] (by omega) out.length FU (Nat.le_refl _) (by unfold FU; omega)
   have hat := (insAt_ok (key := En.edge) (dv := (EK.st SN.en).dft) (x := l[j]) (out := out) out.length).1
   unfold pSortEnL0B
   rw [decide_eq_true (show (j : Int) < Int.ofNat l.length by simp; omega), inR_ge hj, e2, h2, hx]
   generalize hk : insAt En.edge (EK.st SN.en).dft l[j] out out.length = at_ at *
   have hk' : insAt SEn.ky (EK.st SN.en).dft l[j] out out.length = at_ := hk
   show (bif decide (0 ≤ (at_ : Int)) && decide ((at_ : Int) ≤ Int.ofNat out.length) then bif decide (0 ≤ (at_ : Int)) && decide ((at_ : Int) ≤ Int.ofNat out.length) then bif decide ((out.take (Int.toNat at_)).length ≤ 1000000000) then bif decide ((out.take (Int.toNat at_)).length + 1 ≤ 1000000000) then bif decide ((out.take (Int.toNat at_) ++ [l[j]]).length + (List.drop (Int.toNat at_) (List.take (Int.ofNat out.length).toNat out)).length ≤ 1000000000) then some (Sum.inl (((), l, Int.ofNat l.length, w64 ((j : Int) + 1), ()), out.take (Int.toNat at_) ++ [l[j]] ++ List.drop (Int.toNat at_) (List.take (Int.ofNat out.length).toNat out), ())) else none else none else none else none else none) = _
   rw [show (decide (0 ≤ (at_ : Int)) && decide ((at_ : Int) ≤ Int.ofNat out.length)) = true by simp; omega, show Int.toNat (at_ : Int) = at_ from rfl, show (Int.ofNat out.length).toNat = out.length from rfl, List.take_length, w64_ix (by omega)]
   rw [decide_eq_true (by simp; omega), decide_eq_true (by simp; omega), decide_eq_true (by simp; omega)]
   unfold insP
   rw [hk']
   rfl
  ·show pSortEnL0B pSortEnL1N l (Int.ofNat l.length) (l.length : Int) (sortEn (l.take l.length)) = _
   unfold pSortEnL0B
   rw [decide_eq_false (by simp)]
   rfl
 show (pSortEnL0N (((), l, Int.ofNat l.length, 0, ()), [], ())).bind _ = _
 rw [h0]
 rfl
section
variable {c : Cfg} {got h : List Int} [hg : Bd got] [hh : Bd h] {r : Res} {d : List Acc}
omit hg hh in
theorem dGetL1 {z : pGetL1E.X} (hz : Dead c got d (z.2.1, z.2.2.1, ())) {m : Nat} (hm : 0 < m) : loopF (pGetL1E.un (pGetL1B pFieldN)) m z = some (((), (), z.1.2.2.1, (), ()), z.2.1, z.2.2.1, z.2.2.2.1, z.2.2.2.2.1, ()) := by
 obtain ⟨⟨_, _, a, _, x, _⟩, p, dd, ⟨o', _⟩, l, _⟩ := z
 obtain ⟨h, r, hh, e⟩ := hz
 cases e
 refine loopF_one hm ?_
 show pGetL1B pFieldN a x _ _ _ false _ _ o' l = _
 unfold pGetL1B
 cases (x != 0) <;> rfl
omit hg hh in
theorem dGetL0 {z : pGetL0E.X} (hz : Dead c got d (z.2.1, z.2.2.1, ())) {m : Nat} (hm : 0 < m) : loopF (pGetL0E.un (pGetL0B pFailedN pDirN pLoadN pFieldN pSeeN pLeaveN pSortPrN pGetL1N)) m z = some (.inl ((), z.2.1, z.2.2.1, ())) := by
 obtain ⟨⟨_, _, _⟩, p, dd, ⟨o', _⟩, _⟩ := z
 obtain ⟨h, r, hh, e⟩ := hz
 cases e
 refine loopF_one hm ?_
 rfl
theorem pGet_sim {o : Opn} : Sim (((lookPTr o.a c got h).bind fun x => finTr (x, h)).exec got d) (pGetN (((), o, ()), ps c got h true r d)) (Ov c got ()) (DD c got) := by
 show Sim _ (pGetB pFailedN pDirN pLoadN pFieldN pSeeN pKnownN pLeaveN pSortPrN pGetL1N pGetL0N o c got h true r d) _ _
 unfold pGetB lookPTr lookPF lookPB lookPL0F
 dsimp only [F.tree, doT, frT]
 rw [known1]
 simp only [F.tree, doT, frT, xA, xC, xT, xO, xS, yI, yR, zI, zR, xI, xR, yB, bne, cond_true, cond_false, Bool.not_true, Bool.not_false, Option.bind_assoc, Option.bind_some, zB]
 repeat' (first|(with_reducible first|refine Yd (by assumption) fun z hz =>?_|refine Yv ?_|refine Yg (by (refine decide_eq_true ?_; simp only [List.length_cons, List.length_nil, List.length_append]; omega)) ?_|refine Yc (fun _ =>?_) fun _ =>?_|refine Zs (fun x d hd =>?_) fun d z hz =>?_|refine Zv ?_|refine Zc (fun _ =>?_) fun _ =>?_|refine Zl (fun d =>?_) fun d z hz =>?_|exact Ze|refine Zk (fun d =>?_) fun d z hz =>?_|refine Zf (fun d =>?_) fun d z hz =>?_|refine Za (by assumption) (fun l d hl =>?_) (fun d z hz hl =>?_)|refine Zq (pWi _ _ (by simp; omega) (by simp; omega)) ?_|refine Zw ?_|refine Zq (pSp _ (by omega)) ?_|refine Zq (pSe _ (by omega)) ?_|refine Zt ?_|refine Zu ?_|refine Zn (fun _ =>?_) fun _ =>?_|refine Zo (fun _ =>?_) fun _ =>?_|refine Zg fun _ =>?_|exact Zb|refine Yl (by assumption) fun z hz =>?_|refine Ya (by assumption) fun z hz hl =>?_|refine Yq (pWi _ _ (by simp; omega) (Nat.le_trans (Dead.held (by assumption)) (by decide))) ?_|refine Yw (by assumption) ?_|refine Yq (pSp _ (by first | assumption | omega | simp)) ?_|refine Yq (pSe _ (by first | assumption | omega | simp)) ?_)|(refine Zr ?_;first|exact rfl|exact ⟨rfl, rfl⟩|exact ⟨rfl, by simp; omega⟩)|(refine Ys ?_; assumption)|(refine Ys ⟨by assumption, ?_⟩; simp; omega))
 refine Sim.loopK (fun _ d z => z = (((), (), ()), (c, got, (), h, true, r, ()), d, (o, ()), ())) (fun d z => Dead c got d (z.2.1, z.2.2.1, ())) 1 (by have := hg.h; unfold FU; omega) rfl (fun d z hz => Yq (dGetL0 hz (by decide)) ?_) ?_
 ·simp only [F.tree, doT, frT, xA, xC, xT, xO, xS, yI, yR, zI, zR, xI, xR, yB, bne, cond_true, cond_false, Bool.not_true, Bool.not_false, Option.bind_assoc, Option.bind_some, zB]
  repeat' (first|(with_reducible first|refine Yd (by assumption) fun z hz =>?_|refine Yv ?_|refine Yg (by (refine decide_eq_true ?_; simp only [List.length_cons, List.length_nil, List.length_append]; omega)) ?_|refine Yc (fun _ =>?_) fun _ =>?_|refine Yl (by assumption) fun z hz =>?_|refine Ya (by assumption) fun z hz hl =>?_|refine Yq (pWi _ _ (by simp; omega) (Nat.le_trans (Dead.held (by assumption)) (by decide))) ?_|refine Yw (by assumption) ?_|refine Yq (pSp _ (by first | assumption | omega | simp)) ?_|refine Yq (pSe _ (by first | assumption | omega | simp)) ?_)|(refine Ys ?_; assumption)|(refine Ys ⟨by assumption, ?_⟩; simp; omega))
 ·rintro ⟨⟩ d z rfl
  show Sim _ ((pGetL0B pFailedN pDirN pLoadN pFieldN pSeeN pLeaveN pSortPrN pGetL1N c got h true r d o).bind _) _ _
  unfold pGetL0B lookPL0Step lookPL0B pairsF pairsB walkPF walkPB walkPL0F
  simp only [F.tree, doT, frT, xA, xC, xT, xO, xS, yI, yR, zI, zR, xI, xR, yB, bne, cond_true, cond_false, Bool.not_true, Bool.not_false, Option.bind_assoc, Option.bind_some, zB]
  repeat' (first|(with_reducible first|refine Yd (by assumption) fun z hz =>?_|refine Yv ?_|refine Yg (by (refine decide_eq_true ?_; simp only [List.length_cons, List.length_nil, List.length_append]; omega)) ?_|refine Yc (fun _ =>?_) fun _ =>?_|refine Zs (fun x d hd =>?_) fun d z hz =>?_|refine Zv ?_|refine Zc (fun _ =>?_) fun _ =>?_|refine Zl (fun d =>?_) fun d z hz =>?_|exact Ze|refine Zk (fun d =>?_) fun d z hz =>?_|refine Zf (fun d =>?_) fun d z hz =>?_|refine Za (by assumption) (fun l d hl =>?_) (fun d z hz hl =>?_)|refine Zq (pWi _ _ (by simp; omega) (by simp; omega)) ?_|refine Zw ?_|refine Zq (pSp _ (by omega)) ?_|refine Zq (pSe _ (by omega)) ?_|refine Zt ?_|refine Zu ?_|refine Zn (fun _ =>?_) fun _ =>?_|refine Zo (fun _ =>?_) fun _ =>?_|refine Zg fun _ =>?_|exact Zb|refine Yl (by assumption) fun z hz =>?_|refine Ya (by assumption) fun z hz hl =>?_|refine Yq (pWi _ _ (by simp; omega) (Nat.le_trans (Dead.held (by assumption)) (by decide))) ?_|refine Yw (by assumption) ?_|refine Yq (pSp _ (by first | assumption | omega | simp)) ?_|refine Yq (pSe _ (by first | assumption | omega | simp)) ?_)|(refine Zr ?_;first|exact rfl|exact ⟨rfl, rfl⟩|exact ⟨rfl, by simp; omega⟩)|(refine Ys ?_; assumption)|(refine Ys ⟨by assumption, ?_⟩; simp; omega))
  ·rename_i v _ _ _ _ _ _
   have hgl := hg.h
   refine Sim.loopK (fun st d z => z = (((), (), v, (), st.2.2.2, ()), (c, got, (), h, true, r, ()), d, (o, ()), st.1, ()) ∧ st.1.length ≤ d.length ∧ d.length ≤ got.length) (fun d z => Dead c got d (z.2.1, z.2.2.1, ()) ∧ z.2.2.2.2.1.length ≤ 1000001) 1 (by unfold FU; omega) ⟨rfl, by simp; omega⟩ (fun d z hz => Yq (dGetL1 hz.1 (by decide)) ?_) ?_
   ·obtain ⟨hz, hl⟩ := hz
    simp only [F.tree, doT, frT, xA, xC, xT, xO, xS, yI, yR, zI, zR, xI, xR, yB, bne, cond_true, cond_false, Bool.not_true, Bool.not_false, Option.bind_assoc, Option.bind_some, zB]
    repeat' (first|(with_reducible first|refine Yd (by assumption) fun z hz =>?_|refine Yv ?_|refine Yg (by (refine decide_eq_true ?_; simp only [List.length_cons, List.length_nil, List.length_append]; omega)) ?_|refine Yc (fun _ =>?_) fun _ =>?_|refine Yl (by assumption) fun z hz =>?_|refine Ya (by assumption) fun z hz hl =>?_|refine Yq (pWi _ _ (by simp; omega) (Nat.le_trans (Dead.held (by assumption)) (by decide))) ?_|refine Yw (by assumption) ?_|refine Yq (pSp _ (by first | assumption | omega | simp)) ?_|refine Yq (pSe _ (by first | assumption | omega | simp)) ?_)|(refine Ys ?_; assumption)|(refine Ys ⟨by assumption, ?_⟩; simp; omega))
   ·rintro ⟨l, _, _, y⟩ d z ⟨rfl, hl, hd⟩
    show Sim _ ((pGetL1B pFieldN v y c got h true r d o l).bind _) _ _
    dsimp only at hl hd
    unfold pGetL1B walkPL0Step walkPL0B pairsCF pairsCB
    simp only [F.tree, doT, frT, xA, xC, xT, xO, xS, yI, yR, zI, zR, xI, xR, yB, bne, cond_true, cond_false, Bool.not_true, Bool.not_false, Option.bind_assoc, Option.bind_some, zB]
    repeat' (first|(with_reducible first|refine Yd (by assumption) fun z hz =>?_|refine Yv ?_|refine Yg (by (refine decide_eq_true ?_; simp only [List.length_cons, List.length_nil, List.length_append]; omega)) ?_|refine Yc (fun _ =>?_) fun _ =>?_|refine Zs (fun x d hd =>?_) fun d z hz =>?_|refine Zv ?_|refine Zc (fun _ =>?_) fun _ =>?_|refine Zl (fun d =>?_) fun d z hz =>?_|exact Ze|refine Zk (fun d =>?_) fun d z hz =>?_|refine Zf (fun d =>?_) fun d z hz =>?_|refine Za (by assumption) (fun l d hl =>?_) (fun d z hz hl =>?_)|refine Zq (pWi _ _ (by simp; omega) (by simp; omega)) ?_|refine Zw ?_|refine Zq (pSp _ (by omega)) ?_|refine Zq (pSe _ (by omega)) ?_|refine Zt ?_|refine Zu ?_|refine Zn (fun _ =>?_) fun _ =>?_|refine Zo (fun _ =>?_) fun _ =>?_|refine Zg fun _ =>?_|exact Zb|refine Yl (by assumption) fun z hz =>?_|refine Ya (by assumption) fun z hz hl =>?_|refine Yq (pWi _ _ (by simp; omega) (Nat.le_trans (Dead.held (by assumption)) (by decide))) ?_|refine Yw (by assumption) ?_|refine Yq (pSp _ (by first | assumption | omega | simp)) ?_|refine Yq (pSe _ (by first | assumption | omega | simp)) ?_)|(refine Zr ?_;first|exact rfl|exact ⟨rfl, rfl⟩|exact ⟨rfl, by simp; omega⟩)|(refine Ys ?_; assumption)|(refine Ys ⟨by assumption, ?_⟩; simp; omega))
  all_goals
   refine Yq (dGetL1 (by assumption) FU0) ?_
   simp only [F.tree, doT, frT, xA, xC, xT, xO, xS, yI, yR, zI, zR, xI, xR, yB, bne, cond_true, cond_false, Bool.not_true, Bool.not_false, Option.bind_assoc, Option.bind_some, zB]
   repeat' (first|(with_reducible first|refine Yd (by assumption) fun z hz =>?_|refine Yv ?_|refine Yg (by (refine decide_eq_true ?_; simp only [List.length_cons, List.length_nil, List.length_append]; omega)) ?_|refine Yc (fun _ =>?_) fun _ =>?_|refine Yl (by assumption) fun z hz =>?_|refine Ya (by assumption) fun z hz hl =>?_|refine Yq (pWi _ _ (by simp; omega) (Nat.le_trans (Dead.held (by assumption)) (by decide))) ?_|refine Yw (by assumption) ?_|refine Yq (pSp _ (by first | assumption | omega | simp)) ?_|refine Yq (pSe _ (by first | assumption | omega | simp)) ?_)|(refine Ys ?_; assumption)|(refine Ys ⟨by assumption, ?_⟩; simp; omega))
 all_goals
  refine Yq (dGetL0 (by assumption) FU0) ?_
  simp only [F.tree, doT, frT, xA, xC, xT, xO, xS, yI, yR, zI, zR, xI, xR, yB, bne, cond_true, cond_false, Bool.not_true, Bool.not_false, Option.bind_assoc, Option.bind_some, zB]
  repeat' (first|(with_reducible first|refine Yd (by assumption) fun z hz =>?_|refine Yv ?_|refine Yg (by (refine decide_eq_true ?_; simp only [List.length_cons, List.length_nil, List.length_append]; omega)) ?_|refine Yc (fun _ =>?_) fun _ =>?_|refine Yl (by assumption) fun z hz =>?_|refine Ya (by assumption) fun z hz hl =>?_|refine Yq (pWi _ _ (by simp; omega) (Nat.le_trans (Dead.held (by assumption)) (by decide))) ?_|refine Yw (by assumption) ?_|refine Yq (pSp _ (by first | assumption | omega | simp)) ?_|refine Yq (pSe _ (by first | assumption | omega | simp)) ?_)|(refine Ys ?_; assumption)|(refine Ys ⟨by assumption, ?_⟩; simp; omega))
end
section
variable {c : Cfg} {got h : List Int} [hg : Bd got] [hh : Bd h] {r : Res} {d : List Acc}
omit hg hh in
theorem dNearL1 {z : pNearL1E.X} (hz : Dead c got d (z.2.1, z.2.2.1, ())) {m : Nat} (hm : 0 < m) : loopF (pNearL1E.un (pNearL1B pFieldN)) m z = some (((), (), z.1.2.2.1, z.1.2.2.2.1, (), (), ()), z.2.1, z.2.2.1, z.2.2.2.1, z.2.2.2.2.1, z.2.2.2.2.2.1, ()) := by
 obtain ⟨⟨_, _, a, b, _, _, x, _⟩, p, dd, ⟨o', _⟩, l, l', _⟩ := z
 obtain ⟨h, r, hh, e⟩ := hz
 cases e
 refine loopF_one hm ?_
 show pNearL1B pFieldN a b x _ _ _ false _ _ o' l l' = _
 unfold pNearL1B
 cases (x != 0) <;> rfl
omit hg hh in
theorem dNearL2 {z : pNearL2E.X} (hz : Dead c got d (z.2.1, z.2.2.1, ())) {m : Nat} (hm : 0 < m) : loopF (pNearL2E.un (pNearL2B pFieldN)) m z = some (((), (), z.1.2.2.1, (), (), ()), z.2.1, z.2.2.1, z.2.2.2.1, z.2.2.2.2.1, z.2.2.2.2.2.1, ()) := by
 obtain ⟨⟨_, _, a, _, _, x, _⟩, p, dd, ⟨o', _⟩, l, l', _⟩ := z
 obtain ⟨h, r, hh, e⟩ := hz
 cases e
 refine loopF_one hm ?_
 show pNearL2B pFieldN a x _ _ _ false _ _ o' l l' = _
 unfold pNearL2B
 cases (x != 0) <;> rfl
omit hg hh in
theorem dNearL0 {z : pNearL0E.X} (hz : Dead c got d (z.2.1, z.2.2.1, ())) {m : Nat} (hm : 0 < m) : loopF (pNearL0E.un (pNearL0B pFailedN pDirN pLoadN pFieldN pSeeN pLeaveN pSortEnN pNearL1N pNearL2N)) m z = some (.inl ((), z.2.1, z.2.2.1, ())) := by
 obtain ⟨⟨_, _, _⟩, p, dd, ⟨o', _⟩, _⟩ := z
 obtain ⟨h, r, hh, e⟩ := hz
 cases e
 refine loopF_one hm ?_
 rfl
theorem pNear_sim {o : Opn} : Sim (((lookNTr o.a c got h).bind fun x => finTr (x, h)).exec got d) (pNearN (((), o, ()), ps c got h true r d)) (Ov c got ()) (DD c got) := by
 show Sim _ (pNearB pFailedN pDirN pLoadN pFieldN pSeeN pKnownN pLeaveN pSortEnN pNearL1N pNearL2N pNearL0N o c got h true r d) _ _
 unfold pNearB lookNTr lookNF lookNB lookNL0F
 dsimp only [F.tree, doT, frT]
 rw [known1]
 simp only [F.tree, doT, frT, xA, xC, xT, xO, xS, yI, yR, zI, zR, xI, xR, yB, bne, cond_true, cond_false, Bool.not_true, Bool.not_false, Option.bind_assoc, Option.bind_some, zB]
 repeat' (first|(with_reducible first|refine Yd (by assumption) fun z hz =>?_|refine Yv ?_|refine Yg (by (refine decide_eq_true ?_; simp only [List.length_cons, List.length_nil, List.length_append]; omega)) ?_|refine Yc (fun _ =>?_) fun _ =>?_|refine Zs (fun x d hd =>?_) fun d z hz =>?_|refine Zv ?_|refine Zc (fun _ =>?_) fun _ =>?_|refine Zl (fun d =>?_) fun d z hz =>?_|exact Ze|refine Zk (fun d =>?_) fun d z hz =>?_|refine Zf (fun d =>?_) fun d z hz =>?_|refine Za (by assumption) (fun l d hl =>?_) (fun d z hz hl =>?_)|refine Zq (pWi _ _ (by simp; omega) (by simp; omega)) ?_|refine Zw ?_|refine Zq (pSp _ (by omega)) ?_|refine Zq (pSe _ (by omega)) ?_|refine Zt ?_|refine Zu ?_|refine Zn (fun _ =>?_) fun _ =>?_|refine Zo (fun _ =>?_) fun _ =>?_|refine Zg fun _ =>?_|exact Zb|refine Yl (by assumption) fun z hz =>?_|refine Ya (by assumption) fun z hz hl =>?_|refine Yq (pWi _ _ (by simp; omega) (Nat.le_trans (Dead.held (by assumption)) (by decide))) ?_|refine Yw (by assumption) ?_|refine Yq (pSp _ (by first | assumption | omega | simp)) ?_|refine Yq (pSe _ (by first | assumption | omega | simp)) ?_)|(refine Zr ?_;first|exact rfl|exact ⟨rfl, rfl⟩|exact ⟨rfl, by simp; omega⟩)|(refine Ys ?_; assumption)|(refine Ys ⟨by assumption, ?_⟩; simp; omega))
 refine Sim.loopK (fun _ d z => z = (((), (), ()), (c, got, (), h, true, r, ()), d, (o, ()), ())) (fun d z => Dead c got d (z.2.1, z.2.2.1, ())) 1 (by have := hg.h; unfold FU; omega) rfl (fun d z hz => Yq (dNearL0 hz (by decide)) ?_) ?_
 ·simp only [F.tree, doT, frT, xA, xC, xT, xO, xS, yI, yR, zI, zR, xI, xR, yB, bne, cond_true, cond_false, Bool.not_true, Bool.not_false, Option.bind_assoc, Option.bind_some, zB]
  repeat' (first|(with_reducible first|refine Yd (by assumption) fun z hz =>?_|refine Yv ?_|refine Yg (by (refine decide_eq_true ?_; simp only [List.length_cons, List.length_nil, List.length_append]; omega)) ?_|refine Yc (fun _ =>?_) fun _ =>?_|refine Yl (by assumption) fun z hz =>?_|refine Ya (by assumption) fun z hz hl =>?_|refine Yq (pWi _ _ (by simp; omega) (Nat.le_trans (Dead.held (by assumption)) (by decide))) ?_|refine Yw (by assumption) ?_|refine Yq (pSp _ (by first | assumption | omega | simp)) ?_|refine Yq (pSe _ (by first | assumption | omega | simp)) ?_)|(refine Ys ?_; assumption)|(refine Ys ⟨by assumption, ?_⟩; simp; omega))
 ·rintro ⟨⟩ d z rfl
  show Sim _ ((pNearL0B pFailedN pDirN pLoadN pFieldN pSeeN pLeaveN pSortEnN pNearL1N pNearL2N c got h true r d o).bind _) _ _
  unfold pNearL0B lookNL0Step lookNL0B endsF endsB eachOF eachOB eachIF eachIB eachOL0F eachIL0F
  simp only [F.tree, doT, frT, xA, xC, xT, xO, xS, yI, yR, zI, zR, xI, xR, yB, bne, cond_true, cond_false, Bool.not_true, Bool.not_false, Option.bind_assoc, Option.bind_some, zB]
  repeat' (first|(with_reducible first|refine Yd (by assumption) fun z hz =>?_|refine Yv ?_|refine Yg (by (refine decide_eq_true ?_; simp only [List.length_cons, List.length_nil, List.length_append]; omega)) ?_|refine Yc (fun _ =>?_) fun _ =>?_|refine Zs (fun x d hd =>?_) fun d z hz =>?_|refine Zv ?_|refine Zc (fun _ =>?_) fun _ =>?_|refine Zl (fun d =>?_) fun d z hz =>?_|exact Ze|refine Zk (fun d =>?_) fun d z hz =>?_|refine Zf (fun d =>?_) fun d z hz =>?_|refine Za (by assumption) (fun l d hl =>?_) (fun d z hz hl =>?_)|refine Zq (pWi _ _ (by simp; omega) (by simp; omega)) ?_|refine Zw ?_|refine Zq (pSp _ (by omega)) ?_|refine Zq (pSe _ (by omega)) ?_|refine Zt ?_|refine Zu ?_|refine Zn (fun _ =>?_) fun _ =>?_|refine Zo (fun _ =>?_) fun _ =>?_|refine Zg fun _ =>?_|exact Zb|refine Yl (by assumption) fun z hz =>?_|refine Ya (by assumption) fun z hz hl =>?_|refine Yq (pWi _ _ (by simp; omega) (Nat.le_trans (Dead.held (by assumption)) (by decide))) ?_|refine Yw (by assumption) ?_|refine Yq (pSp _ (by first | assumption | omega | simp)) ?_|refine Yq (pSe _ (by first | assumption | omega | simp)) ?_)|(refine Zr ?_;first|exact rfl|exact ⟨rfl, rfl⟩|exact ⟨rfl, by simp; omega⟩)|(refine Ys ?_; assumption)|(refine Ys ⟨by assumption, ?_⟩; simp; omega))
  ·rename_i v _ _ x2 _ _ _
   have hgl := hg.h
   refine Sim.loopK (fun st d z => z = (((), (), v, x2, (), (), st.2, ()), (c, got, (), h, true, r, ()), d, (o, ()), st.1, [], ()) ∧ st.1.length ≤ d.length ∧ d.length ≤ got.length) (fun d z => Dead c got d (z.2.1, z.2.2.1, ()) ∧ z.2.2.2.2.1.length ≤ 1000001 ∧ z.2.2.2.2.2.1.length ≤ 1000001) 1 (by unfold FU; omega) ⟨rfl, by simp; omega⟩ (fun d z hz => Yq (dNearL1 hz.1 (by decide)) ?_) ?_
   ·obtain ⟨hz, hl, hl'⟩ := hz
    simp only [F.tree, doT, frT, xA, xC, xT, xO, xS, yI, yR, zI, zR, xI, xR, yB, bne, cond_true, cond_false, Bool.not_true, Bool.not_false, Option.bind_assoc, Option.bind_some, zB]
    repeat' (first|(with_reducible first|refine Yd (by assumption) fun z hz =>?_|refine Yv ?_|refine Yg (by (refine decide_eq_true ?_; simp only [List.length_cons, List.length_nil, List.length_append]; omega)) ?_|refine Yc (fun _ =>?_) fun _ =>?_|refine Yl (by assumption) fun z hz =>?_|refine Ya (by assumption) fun z hz hl =>?_|refine Yq (pWi _ _ (by simp; omega) (Nat.le_trans (Dead.held (by assumption)) (by decide))) ?_|refine Yw (by assumption) ?_|refine Yq (pSp _ (by first | assumption | omega | simp)) ?_|refine Yq (pSe _ (by first | assumption | omega | simp)) ?_)|(refine Ys ?_; assumption)|(refine Ys ⟨by assumption, ?_⟩; simp; omega))
    refine Yq (dNearL2 (by assumption) FU0) ?_
    simp only [F.tree, doT, frT, xA, xC, xT, xO, xS, yI, yR, zI, zR, xI, xR, yB, bne, cond_true, cond_false, Bool.not_true, Bool.not_false, Option.bind_assoc, Option.bind_some, zB]
    repeat' (first|(with_reducible first|refine Yd (by assumption) fun z hz =>?_|refine Yv ?_|refine Yg (by (refine decide_eq_true ?_; simp only [List.length_cons, List.length_nil, List.length_append]; omega)) ?_|refine Yc (fun _ =>?_) fun _ =>?_|refine Yl (by assumption) fun z hz =>?_|refine Ya (by assumption) fun z hz hl =>?_|refine Yq (pWi _ _ (by simp; omega) (Nat.le_trans (Dead.held (by assumption)) (by decide))) ?_|refine Yw (by assumption) ?_|refine Yq (pSp _ (by first | assumption | omega | simp)) ?_|refine Yq (pSe _ (by first | assumption | omega | simp)) ?_)|(refine Ys ?_; assumption)|(refine Ys ⟨by assumption, ?_⟩; simp; omega))
   ·rintro ⟨l, y⟩ d z ⟨rfl, hl, hd⟩
    show Sim _ ((pNearL1B pFieldN v x2 y c got h true r d o l []).bind _) _ _
    dsimp only at hl hd
    unfold pNearL1B eachOL0Step eachOL0B endsCoF endsCoB
    simp only [F.tree, doT, frT, xA, xC, xT, xO, xS, yI, yR, zI, zR, xI, xR, yB, bne, cond_true, cond_false, Bool.not_true, Bool.not_false, Option.bind_assoc, Option.bind_some, zB]
    repeat' (first|(with_reducible first|refine Yd (by assumption) fun z hz =>?_|refine Yv ?_|refine Yg (by (refine decide_eq_true ?_; simp only [List.length_cons, List.length_nil, List.length_append]; omega)) ?_|refine Yc (fun _ =>?_) fun _ =>?_|refine Zs (fun x d hd =>?_) fun d z hz =>?_|refine Zv ?_|refine Zc (fun _ =>?_) fun _ =>?_|refine Zl (fun d =>?_) fun d z hz =>?_|exact Ze|refine Zk (fun d =>?_) fun d z hz =>?_|refine Zf (fun d =>?_) fun d z hz =>?_|refine Za (by assumption) (fun l d hl =>?_) (fun d z hz hl =>?_)|refine Zq (pWi _ _ (by simp; omega) (by simp; omega)) ?_|refine Zw ?_|refine Zq (pSp _ (by omega)) ?_|refine Zq (pSe _ (by omega)) ?_|refine Zt ?_|refine Zu ?_|refine Zn (fun _ =>?_) fun _ =>?_|refine Zo (fun _ =>?_) fun _ =>?_|refine Zg fun _ =>?_|exact Zb|refine Yl (by assumption) fun z hz =>?_|refine Ya (by assumption) fun z hz hl =>?_|refine Yq (pWi _ _ (by simp; omega) (Nat.le_trans (Dead.held (by assumption)) (by decide))) ?_|refine Yw (by assumption) ?_|refine Yq (pSp _ (by first | assumption | omega | simp)) ?_|refine Yq (pSe _ (by first | assumption | omega | simp)) ?_)|(refine Zr ?_;first|exact rfl|exact ⟨rfl, rfl⟩|exact ⟨rfl, by simp; omega⟩)|(refine Ys ?_; assumption)|(refine Ys ⟨by assumption, ?_⟩; simp; omega))
    ·refine Sim.loopK (fun st d z => z = (((), (), v, (), (), st.2, ()), (c, got, (), h, true, r, ()), d, (o, ()), l, st.1, ()) ∧ st.1.length ≤ d.length ∧ d.length ≤ got.length) (fun d z => Dead c got d (z.2.1, z.2.2.1, ()) ∧ z.2.2.2.2.1.length ≤ 1000001 ∧ z.2.2.2.2.2.1.length ≤ 1000001) 1 (by unfold FU; omega) ⟨rfl, by simp; omega⟩ (fun d z hz => Yq (dNearL2 hz.1 (by decide)) ?_) ?_
     ·obtain ⟨hz, hl, hl'⟩ := hz
      simp only [F.tree, doT, frT, xA, xC, xT, xO, xS, yI, yR, zI, zR, xI, xR, yB, bne, cond_true, cond_false, Bool.not_true, Bool.not_false, Option.bind_assoc, Option.bind_some, zB]
      repeat' (first|(with_reducible first|refine Yd (by assumption) fun z hz =>?_|refine Yv ?_|refine Yg (by (refine decide_eq_true ?_; simp only [List.length_cons, List.length_nil, List.length_append]; omega)) ?_|refine Yc (fun _ =>?_) fun _ =>?_|refine Yl (by assumption) fun z hz =>?_|refine Ya (by assumption) fun z hz hl =>?_|refine Yq (pWi _ _ (by simp; omega) (Nat.le_trans (Dead.held (by assumption)) (by decide))) ?_|refine Yw (by assumption) ?_|refine Yq (pSp _ (by first | assumption | omega | simp)) ?_|refine Yq (pSe _ (by first | assumption | omega | simp)) ?_)|(refine Ys ?_; assumption)|(refine Ys ⟨by assumption, ?_⟩; simp; omega))
     ·rintro ⟨l', y⟩ d z ⟨rfl, hl', hd⟩
      show Sim _ ((pNearL2B pFieldN v y c got h true r d o l l').bind _) _ _
      dsimp only at hl' hd
      unfold pNearL2B eachIL0Step eachIL0B endsCiF endsCiB
      simp only [F.tree, doT, frT, xA, xC, xT, xO, xS, yI, yR, zI, zR, xI, xR, yB, bne, cond_true, cond_false, Bool.not_true, Bool.not_false, Option.bind_assoc, Option.bind_some, zB]
      repeat' (first|(with_reducible first|refine Yd (by assumption) fun z hz =>?_|refine Yv ?_|refine Yg (by (refine decide_eq_true ?_; simp only [List.length_cons, List.length_nil, List.length_append]; omega)) ?_|refine Yc (fun _ =>?_) fun _ =>?_|refine Zs (fun x d hd =>?_) fun d z hz =>?_|refine Zv ?_|refine Zc (fun _ =>?_) fun _ =>?_|refine Zl (fun d =>?_) fun d z hz =>?_|exact Ze|refine Zk (fun d =>?_) fun d z hz =>?_|refine Zf (fun d =>?_) fun d z hz =>?_|refine Za (by assumption) (fun l d hl =>?_) (fun d z hz hl =>?_)|refine Zq (pWi _ _ (by simp; omega) (by simp; omega)) ?_|refine Zw ?_|refine Zq (pSp _ (by omega)) ?_|refine Zq (pSe _ (by omega)) ?_|refine Zt ?_|refine Zu ?_|refine Zn (fun _ =>?_) fun _ =>?_|refine Zo (fun _ =>?_) fun _ =>?_|refine Zg fun _ =>?_|exact Zb|refine Yl (by assumption) fun z hz =>?_|refine Ya (by assumption) fun z hz hl =>?_|refine Yq (pWi _ _ (by simp; omega) (Nat.le_trans (Dead.held (by assumption)) (by decide))) ?_|refine Yw (by assumption) ?_|refine Yq (pSp _ (by first | assumption | omega | simp)) ?_|refine Yq (pSe _ (by first | assumption | omega | simp)) ?_)|(refine Zr ?_;first|exact rfl|exact ⟨rfl, rfl⟩|exact ⟨rfl, by simp; omega⟩)|(refine Ys ?_; assumption)|(refine Ys ⟨by assumption, ?_⟩; simp; omega))
    all_goals
     refine Yq (dNearL2 (by assumption) FU0) ?_
     simp only [F.tree, doT, frT, xA, xC, xT, xO, xS, yI, yR, zI, zR, xI, xR, yB, bne, cond_true, cond_false, Bool.not_true, Bool.not_false, Option.bind_assoc, Option.bind_some, zB]
     repeat' (first|(with_reducible first|refine Yd (by assumption) fun z hz =>?_|refine Yv ?_|refine Yg (by (refine decide_eq_true ?_; simp only [List.length_cons, List.length_nil, List.length_append]; omega)) ?_|refine Yc (fun _ =>?_) fun _ =>?_|refine Yl (by assumption) fun z hz =>?_|refine Ya (by assumption) fun z hz hl =>?_|refine Yq (pWi _ _ (by simp; omega) (Nat.le_trans (Dead.held (by assumption)) (by decide))) ?_|refine Yw (by assumption) ?_|refine Yq (pSp _ (by first | assumption | omega | simp)) ?_|refine Yq (pSe _ (by first | assumption | omega | simp)) ?_)|(refine Ys ?_; assumption)|(refine Ys ⟨by assumption, ?_⟩; simp; omega))
  all_goals
   refine Yq (dNearL1 (by assumption) FU0) ?_
   simp only [F.tree, doT, frT, xA, xC, xT, xO, xS, yI, yR, zI, zR, xI, xR, yB, bne, cond_true, cond_false, Bool.not_true, Bool.not_false, Option.bind_assoc, Option.bind_some, zB]
   repeat' (first|(with_reducible first|refine Yd (by assumption) fun z hz =>?_|refine Yv ?_|refine Yg (by (refine decide_eq_true ?_; simp only [List.length_cons, List.length_nil, List.length_append]; omega)) ?_|refine Yc (fun _ =>?_) fun _ =>?_|refine Yl (by assumption) fun z hz =>?_|refine Ya (by assumption) fun z hz hl =>?_|refine Yq (pWi _ _ (by simp; omega) (Nat.le_trans (Dead.held (by assumption)) (by decide))) ?_|refine Yw (by assumption) ?_|refine Yq (pSp _ (by first | assumption | omega | simp)) ?_|refine Yq (pSe _ (by first | assumption | omega | simp)) ?_)|(refine Ys ?_; assumption)|(refine Ys ⟨by assumption, ?_⟩; simp; omega))
   refine Yq (dNearL2 (by assumption) FU0) ?_
   simp only [F.tree, doT, frT, xA, xC, xT, xO, xS, yI, yR, zI, zR, xI, xR, yB, bne, cond_true, cond_false, Bool.not_true, Bool.not_false, Option.bind_assoc, Option.bind_some, zB]
   repeat' (first|(with_reducible first|refine Yd (by assumption) fun z hz =>?_|refine Yv ?_|refine Yg (by (refine decide_eq_true ?_; simp only [List.length_cons, List.length_nil, List.length_append]; omega)) ?_|refine Yc (fun _ =>?_) fun _ =>?_|refine Yl (by assumption) fun z hz =>?_|refine Ya (by assumption) fun z hz hl =>?_|refine Yq (pWi _ _ (by simp; omega) (Nat.le_trans (Dead.held (by assumption)) (by decide))) ?_|refine Yw (by assumption) ?_|refine Yq (pSp _ (by first | assumption | omega | simp)) ?_|refine Yq (pSe _ (by first | assumption | omega | simp)) ?_)|(refine Ys ?_; assumption)|(refine Ys ⟨by assumption, ?_⟩; simp; omega))
 all_goals
  refine Yq (dNearL0 (by assumption) FU0) ?_
  simp only [F.tree, doT, frT, xA, xC, xT, xO, xS, yI, yR, zI, zR, xI, xR, yB, bne, cond_true, cond_false, Bool.not_true, Bool.not_false, Option.bind_assoc, Option.bind_some, zB]
  repeat' (first|(with_reducible first|refine Yd (by assumption) fun z hz =>?_|refine Yv ?_|refine Yg (by (refine decide_eq_true ?_; simp only [List.length_cons, List.length_nil, List.length_append]; omega)) ?_|refine Yc (fun _ =>?_) fun _ =>?_|refine Yl (by assumption) fun z hz =>?_|refine Ya (by assumption) fun z hz hl =>?_|refine Yq (pWi _ _ (by simp; omega) (Nat.le_trans (Dead.held (by assumption)) (by decide))) ?_|refine Yw (by assumption) ?_|refine Yq (pSp _ (by first | assumption | omega | simp)) ?_|refine Yq (pSe _ (by first | assumption | omega | simp)) ?_)|(refine Ys ?_; assumption)|(refine Ys ⟨by assumption, ?_⟩; simp; omega))
end
end Go.Ax.Cd
