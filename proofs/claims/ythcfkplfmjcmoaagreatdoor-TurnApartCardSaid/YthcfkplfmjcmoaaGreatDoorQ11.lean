/- Merged. -/
import Derived.Test.YthcfkplfmjcmoaaGreatDoorQ10
namespace Go.Ax
open Go.RowKit
set_option linter.unusedVariables false
set_option linter.unusedSimpArgs false
section
variable {P : Program} {gl : Glb} {kd : TypeId → Option EK} {G : List (Nat × Con)} {E : Ent} {ops : Array Oper} {ρ : List Value} {F L : Nat → Prop} {s : St} {a : Act} {w : World}
theorem gF {Z : Type} {o : Oper} {A B : Option Z} {z : Z} (hR : Rep ρ F L s a w) (h : aEj ops o s A B = some z) : (Region.wanted o (yielded ops a.tmps) = true ∧ A = some z) ∨ (Region.wanted o (yielded ops a.tmps) = false ∧ B = some z) := by
 unfold aEj at h
 split at h
 ·rename_i hg
  exact .inl ⟨by simp [Region.wanted, hg], h⟩
 ·rename_i j want hg
  split at h
  ·cases h
  ·rename_i t ht
   split at h
   ·rename_i c hc
    have hv := hR.tm.getD t undef
    rw [hc] at hv
    simp only [VR] at hv
    have hy : yielded ops a.tmps j = some c := by
     unfold yielded
     rw [ht]
     simp only [Option.bind_some]
     rw [List.getD_eq_getElem?_getD] at hv
     cases he : a.tmps[t]? with
     | none =>
      rw [Array.getElem?_toList, he] at hv
      simp [undef] at hv
     | some u =>
      rw [Array.getElem?_toList, he] at hv
      simp only [Option.getD_some] at hv
      rw [hv]
    have hw : Region.wanted o (yielded ops a.tmps) = (c == want) := by
     simp only [Region.wanted, hg, hy]
     cases c <;> cases want <;> rfl
    cases hcw : (c == want) with
    | true => rw [hcw] at h hw; exact .inl ⟨hw, h⟩
    | false => rw [hcw] at h hw; exact .inr ⟨hw, h⟩
   ·rename_i hc
    have hv := hR.tm.getD t undef
    rw [hc] at hv
    simp only [VR, VRs] at hv
    obtain ⟨cs, hv, _⟩ := hv
    refine .inr ⟨?_, h⟩
    have hy : yielded ops a.tmps j = none := by
     unfold yielded
     rw [ht]
     simp only [Option.bind_some]
     rw [List.getD_eq_getElem?_getD] at hv
     cases he : a.tmps[t]? with
     | none => rfl
     | some u =>
      rw [Array.getElem?_toList, he] at hv
      simp only [Option.getD_some] at hv
      rw [hv]
    simp [Region.wanted, hg, hy]
   ·cases h
theorem nD {Z : Type} {w : World} {B : Nat → Prop} {g : Bool} {v : AVal} {val : Value} {K : AVal → Option Z} {z : Z} (h : rM g v K = some z) (hv : VR ρ w F B v val) : ∃ v', VR ρ w F B v' val ∧ K v' = some z := by
 unfold rM at h
 split at h
 ·split at h
  ·rename_i c
   cases c
   ·exact ⟨_, hv, h⟩
   ·exact ⟨_, hv, h⟩
  ·exact ⟨_, hv, h⟩
 ·exact ⟨_, hv, h⟩
theorem aJl (h : Inv gl E s a w ρ F) {o : Oper} {q : AVal × St} (hq : bBr P gl kd o.op s = some q) {KK : Act → World → Prop} {Q : Exit → Act → World → Prop}
  (hK : ∀ w' ρ' F' val, Inv gl E q.2 a w' ρ' F' → VR ρ' w' F' (Bx F' E.L) q.1 val → KK (a.put o.dst val) w') : o.wp P a w KK Q := by
 obtain ⟨dst, op, ty, pos, after, guard⟩ := o
 cases op <;> simp only [bBr, reduceCtorEq] at hq
 case buildSlice t n ps =>
  split at hq
  ·rename_i e hte
   split at hq
   ·rename_i ie hk hie
    split at hq
    ·rename_i z hz
     split at hq
     ·rename_i hc
      obtain ⟨c1, c2, c4⟩ := hc
      obtain ⟨l, h1, h3⟩ := Option.map_eq_some_iff.1 hq
      cases h3
      have hv := cY h.rep h.glo (ps.toList.map (·.2))
      have hz0 : VRs ρ w F (Bx F E.L) ((List.range (n * 1)).map fun j => cv0 (z.cells[j % z.cells.size]!)) ((Array.range (n * 1)).map (z.cells[· % z.cells.size]!)).toList := by
       have := cB (ρ := ρ) (w := w) (F := F) (B := Bx F E.L) ((Array.range (n * 1)).map (z.cells[· % z.cells.size]!)).toList
       simpa [Function.comp_def] using this
      obtain ⟨cs', h4, h5⟩ := iA (pvs := (ps.map fun (i, x) => (i, a.eval x)).toList) hz0 (by simp [Function.comp_def]) (by simpa [Function.comp_def] using hv) h1
      have hrun := run_buildSlice (P := P) w t e n (ps.map fun (i, x) => (i, a.eval x)) cs' ie z hte hie hz (by rw [c1]; omega) (by rw [c1]; omega) (by rw [c1]; exact h4)
      have hch : Ch w (w.alloc (.cells cs' e)) (fun _ => False) := Ch.alloc _ _ _
      have hnew := h.rep.new (v := .pointer (some ⟨w.heap.size, 0, none⟩)) (o := .box l) hch ⟨w.heap.size, cs', e, rfl, heap_alloc_new w _, VRs.still h.rep.h (hch.mono (fun _ h => h.elim)) h5⟩ (fun b hb => by simp only [blk, Option.some.injEq] at hb; omega)
      have hst := (Stp.refl w (Own ρ s.hp) F).new (o := .box l) (v := .pointer (some ⟨w.heap.size, 0, none⟩)) h.rep.h.len hch (fun b hb => by simp only [blk, Option.some.injEq] at hb; omega)
      unfold Oper.wp
      have hr2 : (execOp a.eval { dst, op := Op.buildSlice t n ps, type := ty, pos, after, guard }).run P w = .ok (.value (.slice (some ⟨w.heap.size, 0, none⟩) n n)) (w.alloc (.cells cs' e)) := by
       simp only [execOp, Sem.run_bind]
       rw [hrun]
       simp
      rw [hr2]
      refine hK _ _ F _ (.of hnew (h.stp.trans hst) (h.pk.trans (fun m x hx => by rw [getElem?_app ρ _ m (List.getElem?_eq_some_iff.1 hx).1]; exact hx)) (h.glo.stp h.rep.h hst) h.dfs) ?_
      simp only [VR]
      exact ⟨w.heap.size, n, by rw [← h.rep.h.len]; simp, rfl, Nat.le_refl _⟩
     ·cases hq
    ·cases hq
   ·cases hq
  ·cases hq
theorem aOs (h : Inv gl E s a w ρ F) (o : Go.Op) : ∃ F', Inv gl E (preF P gl kd o s) a w ρ F' := by
 have hs : ∃ F', Inv gl E s a w ρ F' := ⟨F, h⟩
 unfold preF
 split
 ·split
  ·split
   ·obtain ⟨F1, g1, g2, _⟩ := iB (v := .any) (x := undef) _ h.rep (by simp [VR])
    exact ⟨F1, .of g1 (h.stp.trans g2) h.pk (h.glo.stp h.rep.h g2) h.dfs⟩
   ·exact hs
  ·exact hs
 ·exact hs
theorem mA {Z : Type} (hG : GOk P gl G) {K : AEx → St → Option Z} {z : Z} : ∀ (l : List Oper) {s : St} {a : Act} {w : World} {ρ : List Value} {F : Nat → Prop}, Inv gl E s a w ρ F → aseq P gl kd G ops l s (K .normal) (fun v s' => K (.pan v) s') = some z →
  wpList P ops (QK gl E (fun e s => K e s = some z)) l a w
 | [], s, a, w, ρ, F, h, hz => ⟨s, ρ, F, h, hz⟩
 | o :: r, s, a, w, ρ, F, h, hz => by
  simp only [aseq] at hz
  unfold wpList
  rcases gF h.rep hz with ⟨h1, h2⟩ | ⟨h1, h2⟩
  ·rw [if_pos h1]
   split at h2
   ·rename_i q hq
    exact .inl (aJl h hq (fun w' ρ' F' val hx hv => mA hG r (hx.put o.dst hv) h2))
   obtain ⟨F9, h⟩ := aOs (P := P) (kd := kd) h o.op
   refine .inl (aEm hG h h2 (fun v s' w' ρ' F' val hx hk => by
    obtain ⟨v', hv', hk'⟩ := nD hk hx.vr
    exact mA hG r (hx.inv.put o.dst hv') hk') (fun v s' w' ρ' F' x hx hv hk => ⟨s', ρ', F', v, x, h.dfs, ⟨hx.toInvH, fun _ => hx.rep.tm⟩, rfl, hv, hk⟩))
  ·rw [if_neg (by rw [h1]; simp)]
   exact mA hG r (h.put o.dst (x := .tup []) (v := undef) (by simp [VR, VRs, undef])) h2

theorem PinOk.same {pins sp : List (Nat × Nat)} {w' : World} {hp : List AObj} (h : PinOk ρ hp w pins sp) (hs : w.heap.size ≤ w'.heap.size) : PinOk ρ hp w' pins sp := fun p hp => ⟨Nat.lt_of_lt_of_le (h p hp).1 hs, (h p hp).2⟩
theorem aWx {x : Nat} {o : Oper} (h : anyT ops s x = true) (ho : ops[x]? = some o) : s.put o.dst .any = s := by
 unfold anyT at h
 rw [ho] at h
 dsimp only at h
 unfold St.put
 split at h
 ·rename_i t ht
  split at h
  ·rename_i hv
   cases s
   simp only [St.mk.injEq, and_true]
   rename_i tm hp
   dsimp only at hv
   apply List.ext_getElem?
   intro i
   rw [List.getElem?_set]
   by_cases c : t = i
   ·subst c
    rw [if_pos rfl]
    by_cases hlt : t < tm.length
    ·rw [if_pos hlt]
     rw [List.getD_eq_getElem?_getD, List.getElem?_eq_getElem hlt] at hv
     simp only [Option.getD_some] at hv
     rw [List.getElem?_eq_getElem hlt, hv]
    ·rw [if_neg hlt]
     exact (List.getElem?_eq_none (Nat.le_of_not_lt hlt)).symm
   ·rw [if_neg c]
  ·cases h
 ·rfl
theorem aJm {x : Nat} {o : Oper} (h : aGf P gl kd ops s x = some true) (ho : ops[x]? = some o) : (∀ d, o.dst = some d → d ∉ o.looksAt ops) ∧ ∃ v s', aopE P gl kd o.op s = some (true, v, s') := by
 unfold aGf at h
 rw [ho] at h
 dsimp only at h
 split at h
 ·rename_i h1
  obtain ⟨⟨g, v, s'⟩, h2, h3⟩ := Option.map_eq_some_iff.1 h
  dsimp only at h3
  subst h3
  refine ⟨fun d hd =>?_, v, s', h2⟩
  unfold aUi at h1
  rw [hd] at h1
  simpa using h1
 ·cases h
theorem xE : ∀ {l : List Nat}, aGg P gl kd ops s l = some true → ∀ x ∈ l, anyT ops s x = true ∧ aGf P gl kd ops s x = some true
 | [], _, x, hx => nomatch hx
 | y :: l, h, x, hx => by
  simp only [aGg] at h
  split at h
  ·rename_i h1
   obtain ⟨g, h2, h⟩ := Option.bind_eq_some_iff.1 h
   obtain ⟨g', h3, h4⟩ := Option.map_eq_some_iff.1 h
   rw [Bool.and_eq_true] at h4
   obtain ⟨rfl, rfl⟩ := h4
   rcases List.mem_cons.1 hx with rfl | hx
   ·exact ⟨h1, h2⟩
   ·exact xE h3 x hx
  ·cases h
theorem bBz {o : Go.Op} (h : bH o = true) : vK o = false := by cases o <;> first | rfl | simp [bH] at h
theorem bCa {o : Go.Op} (h : bH o = true) : wrNs gl G o s = [] := by cases o <;> first | rfl | simp [bH] at h
theorem aWy {Z : Type} {o : Go.Op} (h : bH o = true) {K Kp : AVal → St → Option Z} {z : Z} (hz : ao1 P gl kd G o s K Kp = some z) : ∃ v s', aopE P gl kd o s = some (true, v, s') ∧ K v s' = some z := by
 unfold ao1 at hz
 rw [if_neg (by rw [bBz h]; simp)] at hz
 cases o <;> simp only [bH, Bool.false_eq_true] at h <;> dsimp only at hz
 all_goals (
  obtain ⟨⟨q, v, s'⟩, h1, hz⟩ := Option.bind_eq_some_iff.1 hz
  cases q
  ·cases hz
  ·exact ⟨v, s', h1, hz⟩)
theorem aWz (pins : List (Nat × Nat)) (k : Nat) : bBw pins [] k = pins := by simp [bBw]
theorem aCe {l : List Bool} {lc : Array Bool} {pins sp : List (Nat × Nat)} {A : List (Nat × Option Nat)} (h : DInv P gl E ops l lc pins sp A s a w ρ F) : ∀ p ∈ A, ∀ b, p.2 = some b → (∀ q ∈ sp, q.2 ≠ b) ∧ ¬ Own ρ s.hp b ∧ ¬ Bx F E.L b ∧ b < w.heap.size := fun p hp b hpb => by
 obtain ⟨o', u', _, _, _, k⟩ := (h.ok p hp).ex
 rw [hpb] at k
 obtain ⟨_, ⟨obj, _, _, k0⟩, k1, k2, _, k⟩ := k
 exact ⟨k, k1, k2, (Array.getElem?_eq_some_iff.1 k0).1⟩
set_option maxHeartbeats 1600000 in
theorem aJn {Z : Type} (hfl : E.full = false) (hG : GOk P gl G) (hsel : Region.noSelect ops = true) {K : AEx → St → Option Z} {z : Z} : ∀ (n : Nat) (st : List Stage) (fuel : Nat), st.length + fuel ≤ n → ∀ {l : List Bool} {lc : Array Bool} {pins sp : List (Nat × Nat)} {A : List (Nat × Option Nat)} {s : St} {a : Act} {w : World} {ρ : List Value} {F : Nat → Prop},
  vU ops l st → DInv P gl E ops l lc pins sp A s a w ρ F → cnt lc ≤ fuel → nA P gl kd G ops st pins s (K .normal) (fun v s' => K (.pan v) s') = some z → wpJ P .any ops (QK gl E (fun e s => K e s = some z)) (TT ops sp) fuel lc a w := by
 intro n
 induction n with
 | zero =>
  intro st fuel hn l lc pins sp A s a w ρ F hst hd hc hz
  have hl : st = [] := List.eq_nil_of_length_eq_zero (by omega)
  subst hl
  simp only [vU] at hst
  have hA : A = [] := by
   cases A with
   | nil => rfl
   | cons p A =>
    have := (hd.ok p List.mem_cons_self).rdy
    rw [hst] at this
    cases this
  subst hA
  refine aJh ?_ ⟨s, ρ, F, hd.inv, hz⟩ _
  rw [List.eq_nil_iff_forall_not_mem]
  intro j hj
  have := hd.rdyC hj
  simp only [List.map_nil, vP, List.foldl_nil] at this
  rw [hst] at this
  cases this
 | succ n ih =>
  intro st fuel hn l lc pins sp A s a w ρ F hst hd hc hz
  have hselo : ∀ (j : Nat) (o : Oper) cs b, ops[j]? = some o → o.op ≠ .select cs b := Region.noSelect_spec hsel
  have hQ : ∀ (oi : Oper) (v : Value) c a w, QK gl E (fun e s => K e s = some z) (.panic c) (a.put oi.dst v) w → QK gl E (fun e s => K e s = some z) (.panic c) a w := fun oi v c a w ⟨s, ρ, F, v', x, h1, h2, h3⟩ => ⟨s, ρ, F, v', x, by cases hd' : oi.dst <;> rw [hd'] at h1 <;> exact h1, ⟨h2.1, fun h => absurd (hfl.symm.trans h) (by simp)⟩, h3⟩
  -- a pure operation, or a load, taken first
  have take : ∀ {i : Nat} {r : List Stage} {o : Oper} {v : AVal} {val : Value} {S : World → Prop} {pins' sp' : List (Nat × Nat)}, ops[i]? = some o → i ∈ aQ (bP ops) l → sO ops (bP ops) l i = true → vU ops (l.set i true) r → r.length + 1 = st.length → (∀ p ∈ A, p.1 ≠ i) →
    YieldsIf P ops S o val a → S w → VR ρ w F (Bx F E.L) v val → PinOk ρ s.hp w pins' sp' → (∀ p ∈ A, ∀ b, p.2 = some b → ∀ q ∈ sp', q.2 ≠ b) → (∀ q ∈ sp, q ∈ sp') →
    (∀ l j w w', Good ops l → l.getD i true = false → j ∈ Region.ready .any ops l → TT ops sp' j w w' → S w → S w') →
    nA P gl kd G ops r pins' (s.put o.dst v) (K .normal) (fun v s' => K (.pan v) s') = some z → wpJ P .any ops (QK gl E (fun e s => K e s = some z)) (TT ops sp) fuel lc a w :=
   fun {i r o v val S pins' sp'} ho hi hfree hst' hlen hA hy hS hv hpin hsp hsub hkeep hz => by
    have hrc := hd.rdyA hi hA
    have hcs := aGi (dL.1 hrc).1
    cases fuel with
    | zero => omega
    | succ fuel =>
     have hoff : ∀ p ∈ A, ∀ o', ops[p.1]? = some o' → Off ops o o' := fun p hp o' ho' => by
      obtain ⟨k1, k2, k3⟩ := bO.1 (hd.ok p hp).rdy
      refine .of (rQ rfl ho hfree p.1 o' ho' (hA p hp) k2 (fun hin =>?_))
      have := k3 i (by rw [sT ho']; exact hin)
      have h2 := (bO.1 hi).2.1
      rcases Nat.lt_or_ge i l.length with h' | h'
      ·simp [List.getD_eq_getElem?_getD, h'] at this h2
       rw [this] at h2
       cases h2
      ·rw [List.getD_eq_getElem?_getD, List.getElem?_eq_none h'] at this
       simp at this
     refine aWv (T' := TT ops sp') (Good := Good ops) ho hselo (hQ o val) (fun j w w' h q hq => h q (hsub q hq)) (fun w q hq _ => rfl) (fun l j h => h.set) hkeep fuel lc a w (fun j oj hj hne hun hno =>?_) hd.good hrc hy hS ?_
     ·refine rQ rfl ho hfree j oj hj hne ((aCd hd).1 hun).1 (fun hin =>?_)
      obtain ⟨e, he, hb, hee⟩ := vT.1 hin
      exact hno e he hb hee
     ·exact ih r fuel (by omega) hst' (hd.step hi hA hoff (hd.inv.put o.dst hv) hpin (fun b k1 k2 k3 _ => ⟨rfl, k2, k3⟩) hsp) (by omega) hz
  have notA : ∀ {i : Nat}, i ∈ aQ (bP ops) l → sN ops i bH = false → ∀ p ∈ A, p.1 ≠ i := fun {i} hi hf p hp e => by
   obtain ⟨o, u, h1, h2, _⟩ := (hd.ok p hp).ex
   rw [e] at h1
   simp [sN, h1, h2] at hf
  cases st with
  | nil =>
   simp only [vU] at hst
   have hA : A = [] := by
    cases A with
    | nil => rfl
    | cons p A =>
     have := (hd.ok p List.mem_cons_self).rdy
     rw [hst] at this
     cases this
   subst hA
   refine aJh ?_ ⟨s, ρ, F, hd.inv, hz⟩ _
   rw [List.eq_nil_iff_forall_not_mem]
   intro j hj
   have := hd.rdyC hj
   simp only [List.map_nil, vP, List.foldl_nil] at this
   rw [hst] at this
   cases this
  | cons g r =>
   cases g with
   | pure i =>
    obtain ⟨hi, hnf, hfree, hst'⟩ := hst
    simp only [nA] at hz
    split at hz
    ·cases hz
    ·rename_i o ho
     have hex : ∃ v val, YieldsIf P ops (fun _ => True) o val a ∧ VR ρ w F (Bx F E.L) v val ∧ nA P gl kd G ops r pins (s.put o.dst v) (K .normal) (fun v s' => K (.pan v) s') = some z := by
      rcases gF hd.inv.rep hz with ⟨h1, h2⟩ | ⟨h1, h2⟩
      ·obtain ⟨⟨q, v⟩, h3, h4⟩ := Option.bind_eq_some_iff.1 h2
       cases q
       ·cases h4
       ·obtain ⟨val, h5, h6⟩ := aBm hd.inv.rep hd.inv.glo h3
        simp only [cond_true] at h4
        obtain ⟨v', h7, h8⟩ := nD h4 h6
        exact ⟨v', val, .inl ⟨h1, fun w _ => h5 w⟩, h7, h8⟩
      ·exact ⟨.tup [], undef, .inr ⟨h1, rfl⟩, by simp [VR, VRs, undef], h2⟩
     obtain ⟨v, val, h1, h2, h3⟩ := hex
     exact take ho hi hfree hst' (by simp) (notA hi hnf) h1 trivial h2 hd.pin (fun p hp b hb => (aCe hd p hp b hb).1) (fun q hq => hq) (fun _ _ _ _ _ _ _ _ _ => trivial) h3
   | load i =>
    obtain ⟨hi, hnf, hfree, hst'⟩ := hst
    simp only [nA] at hz
    split at hz
    ·cases hz
    ·rename_i o ho
     split at hz
     ·rename_i t x hop
      rcases gF hd.inv.rep hz with ⟨h1, h2⟩ | ⟨h1, h2⟩
      ·split at h2
       ·rename_i hlv
        obtain ⟨v, h3, h4⟩ := Option.bind_eq_some_iff.1 h2
        obtain ⟨val, b, h5, h6, h7⟩ := vN hd.inv.rep h3 (kF hd.inv.rep hd.inv.glo x)
        obtain ⟨v, h6, h4⟩ := nD h4 h6
        have hbl : b < w.heap.size := h7.elim (fun ⟨_, _, _, _, _, k⟩ => k) (fun ⟨_, k⟩ => (hd.inv.h.froz b k).1)
        have hown : (∃ n, (ev gl s x).nm = some n ∧ Own ρ s.hp b ∧ ∀ (m : Nat) (o : AObj) (y : Value), s.hp[m]? = some o → o.live = true → ρ[m]? = some y → blk y = some b → m = n) ∨ Bx F E.L b := by
         rcases h7 with ⟨m, y, k1, k2, k3, k4⟩ | ⟨_, k⟩
         ·left
          have hlv' : (s.hp.getD m .dead).live = true := by
           have := List.all_eq_true.1 hlv m (by rw [k1]; simp)
           exact this
          have hm : m < s.hp.length := by rw [← hd.inv.h.len]; exact (List.getElem?_eq_some_iff.1 k2).1
          rw [List.getD_eq_getElem?_getD, List.getElem?_eq_getElem hm] at hlv'
          simp only [Option.getD_some] at hlv'
          exact ⟨m, k1, ⟨m, _, y, List.getElem?_eq_getElem hm, hlv', k2, k3⟩, fun m' o' y' j1 j2 j3 j4 => hd.inv.h.dist m' m o' _ y' y b j1 (List.getElem?_eq_getElem hm) j2 hlv' j3 k2 j4 k3⟩
         ·exact .inr k
        refine take (S := fun w1 => w1.heap[b]? = w.heap[b]?) (sp' := (i, b) :: sp) ho hi hfree hst' (by simp) (notA hi hnf) (.inl ⟨h1, fun w1 hw1 =>?_⟩) rfl h6 (fun q hq =>?_) (fun p hp c hc q hq =>?_) (fun q hq => List.mem_cons_of_mem _ hq) (fun l j w1 w2 hg hun hj hT hS =>?_) h4
        ·have : execOp a.eval o = (do let v ← Instr.loadAt t (a.eval x); pure (.value v) : Sem Next) := by
          unfold execOp
          rw [hop]
         rw [this, Sem.run_bind, h5 w1 hw1]
         rfl
        ·rcases List.mem_cons.1 hq with rfl | hq
         ·refine ⟨hbl, fun n o' y k1 k2 k3 k4 =>?_⟩
          rcases hown with ⟨m, j1, _, j3⟩ | hB
          ·have := j3 n o' y k1 k2 k3 k4
           subst this
           rw [j1]
           simp
          ·exact absurd ⟨n, o', y, k1, k2, k3, k4⟩ (hd.inv.h.froz b hB).2
         ·exact ⟨(hd.pin q hq).1, fun n o' y k1 k2 k3 k4 => List.mem_append_right _ ((hd.pin q hq).2 n o' y k1 k2 k3 k4)⟩
        ·obtain ⟨e1, e2, e3, e4⟩ := aCe hd p hp c hc
         rcases List.mem_cons.1 hq with rfl | hq
         ·rintro rfl
          rcases hown with ⟨m, _, j2, _⟩ | hB
          ·exact e2 j2
          ·exact e3 hB
         ·exact e1 q hq
        ·refine (hT (i, b) List.mem_cons_self ?_).trans hS
         cases hcon : (xB (bP ops) j).contains i with
         | false => rfl
         | true =>
          have := aJi hg j (dL.1 hj).2.2 i hcon
          have h0 := bHk hun
          rw [this] at h0
          cases h0
       ·cases h2
      ·exact take ho hi hfree hst' (by simp) (notA hi hnf) (S := fun _ => True) (.inr ⟨h1, rfl⟩) trivial (v := .tup []) (by simp [VR, VRs, undef]) hd.pin (fun p hp b hb => (aCe hd p hp b hb).1) (fun q hq => hq) (fun _ _ _ _ _ _ _ _ _ => trivial) h2
     ·cases hz
   | eff i dep frs =>
    obtain ⟨hi, hdep, hall, hfrs, hnew, hst'⟩ := hst
    have hz0 := hz
    simp only [nA] at hz
    split at hz
    ·cases hz
    ·rename_i o ho
     obtain ⟨g0, hfr, hz⟩ := Option.bind_eq_some_iff.1 hz
     cases g0 with
     | true =>
      dsimp only [cond_true] at hz
      have unl : ∀ {x y : Nat} {oy : Oper}, x ∈ aQ (bP ops) l → y ∈ aQ (bP ops) l → ops[y]? = some oy → x ∉ aEk oy := fun {x y oy} hx hy hoy hin => by
       have k3 := (bO.1 hy).2.2 x (by rw [sT hoy]; exact hin)
       have k2 := (bO.1 hx).2.1
       rcases Nat.lt_or_ge x l.length with h' | h'
       ·simp [List.getD_eq_getElem?_getD, h'] at k3 k2
        rw [k3] at k2
        cases k2
       ·rw [List.getD_eq_getElem?_getD, List.getElem?_eq_none h'] at k3
        simp at k3
      by_cases hA : ∀ p ∈ A, p.1 ≠ i
      ·have hAf : ∀ p ∈ A, p.1 ∈ frs := fun p hp => (hall p.1 (hd.ok p hp).rdy).resolve_left (hA p hp)
       have hoff : ∀ {x : Nat} {ox : Oper}, x ∈ aQ (bP ops) l → ops[x]? = some ox → (∀ p ∈ A, p.1 ≠ x) → ∀ p ∈ A, ∀ o', ops[p.1]? = some o' → Off ops ox o' := fun {x ox} hx hox hne p hp o' ho' => by
        refine .of' (rQ rfl ho' ((hfrs p.1 (hAf p hp)).2.2.2 p.1 (hd.ok p hp).rdy) x ox hox (fun e => hne p hp e.symm) (bO.1 hx).2.1 (unl (hd.ok p hp).rdy hx hox))
       have hrc := hd.rdyA hi hA
       have hcs := aGi (dL.1 hrc).1
       cases fuel with
       | zero => omega
       | succ fuel =>
        refine ⟨fun h => (by rw [h] at hrc; cases hrc), fun x hx =>?_⟩
        have hcx := aGi (dL.1 hx).1
        have hxA := ((aCd hd).1 (dL.1 hx).1).2
        by_cases hxi : x = i
        ·subst hxi
         unfold wpOp
         rw [ho]
         dsimp only
         rcases gF hd.inv.rep hz with ⟨h1, h2⟩ | ⟨h1, h2⟩
         ·rw [if_pos h1]
          split at h2
          ·rename_i hpk
           refine .inl (aEm hG hd.inv h2 (fun v s' w' ρ' F' val hx hk =>?_) (fun v s' w' ρ' F' y hx hv hk => ⟨s', ρ', F', v, y, hd.inv.dfs, ⟨hx.toInvH, fun _ => hx.rep.tm⟩, rfl, hv, hk⟩))
           have hpk' : ∀ n ∈ wrNs gl G o.op s, ∀ b ∈ sp, ∀ y, ρ[n]? = some y → blk y = some b.2 → dep.contains b.1 = true := fun n hn q hq y k1 k2 => by
            have h3 := List.all_eq_true.1 hpk n hn
            simp only [Bool.and_eq_true] at h3
            have hm : n < s.hp.length := by rw [← hd.inv.h.len]; exact (List.getElem?_eq_some_iff.1 k1).1
            have h4 := h3.1
            rw [List.getD_eq_getElem?_getD, List.getElem?_eq_getElem hm] at h4
            simp only [Option.getD_some] at h4
            have h5 := List.all_eq_true.1 h3.2 _ ((hd.pin q hq).2 n _ y (List.getElem?_eq_getElem hm) h4 k1 k2)
            simpa using h5
           obtain ⟨v, hv', hk⟩ := nD hk hx.vr
           refine ⟨fun q hq hcon => hx.ch.block q.2 (hd.pin q hq).1 (fun ⟨n, hn, y, k1, k2⟩ =>?_), ?_⟩
           ·have := hpk' n hn q hq y k1 k2
            rw [hdep, hcon] at this
            cases this
           ·refine ih r fuel (by simp only [List.length_cons] at hn; omega) hst' (hd.step hi hA (hoff hi ho hA) (hx.inv.put o.dst hv') (fun q hq => ⟨Nat.lt_of_lt_of_le (hd.pin q hq).1 hx.ch.size, fun n o' y k1 k2 k3 k4 =>?_⟩) (fun b k1 k2 k3 _ => ⟨hx.stp.ch.block b k1 k2, fun h =>?_, fun h =>?_⟩) (fun p hp b hb => (aCe hd p hp b hb).1)) (by omega) hk
            ·obtain ⟨m, y', o2, j1, j2, j3, j4, j5⟩ := hx.nk n y o' q.2 k3 k1 k2 k4 (hd.pin q hq).1
             have hin := (hd.pin q hq).2 m o2 y' j2 j3 j1 j4
             rcases j5 with rfl | j5
             ·exact List.mem_append_left _ hin
             ·refine List.mem_append_right _ (List.mem_flatMap.2 ⟨(q.1, m), List.mem_filter.2 ⟨hin, by simpa using j5⟩, List.mem_map.2 ⟨n, ?_, rfl⟩⟩)
              rw [List.mem_range]
              exact (List.getElem?_eq_some_iff.1 k1).1
            ·rcases hx.stp.oO b h with h | h
             ·exact k2 h
             ·omega
            ·rcases h with h | h
             ·rcases hx.stp.oF b h with h | h | h
              ·exact k3 (.inl h)
              ·exact k2 h
              ·omega
             ·exact k3 (.inr h)
          ·cases h2
         ·rw [if_neg (by rw [h1]; simp)]
          refine ⟨fun q hq _ => rfl, ih r fuel (by simp only [List.length_cons] at hn; omega) hst' (hd.step hi hA (hoff hi ho hA) (hd.inv.put o.dst (x := .tup []) (v := undef) (by simp [VR, VRs, undef])) hd.pin (fun b k1 k2 k3 _ => ⟨rfl, k2, k3⟩) (fun p hp b hb => (aCe hd p hp b hb).1)) (by omega) h2⟩
        ·have hxf : x ∈ frs := (hnew (A.map (·.1)) (fun y hy => by obtain ⟨p, hp, rfl⟩ := List.mem_map.1 hy; exact hAf p hp) x (hd.rdyC hx)).resolve_left hxi
         obtain ⟨hxr, _, hxo, _⟩ := hfrs x hxf
         have hxs : x < ops.size := (dL.1 hx).2.1
         have hox : ops[x]? = some ops[x] := Array.getElem?_eq_getElem hxs
         generalize ops[x] = ox at hox
         have hff : bH ox.op = true := by simpa [sN, hox] using hxo
         have hchk := xE hfr x hxf
         have hany := aWx hchk.1 hox
         obtain ⟨hself, v, s', haop⟩ := aJm hchk.2 hox
         unfold wpOp
         rw [hox]
         dsimp only
         cases hw : Region.wanted ox (yielded ops a.tmps) with
         | false =>
          rw [if_neg (by simp)]
          have hinv : Inv gl E s (a.put ox.dst undef) w ρ F := by
           have := hd.inv.put ox.dst (x := .any) (v := undef) (by simp [VR])
           rwa [hany] at this
          exact ⟨fun q hq _ => rfl, ih (.eff i dep frs :: r) fuel (by omega) ⟨hi, hdep, hall, hfrs, hnew, hst'⟩ (hd.pick (ob := none) hxr hxA hox hff (hoff hxr hox hxA) hinv hd.pin (fun _ _ => rfl) (fun b hb => by cases hb) ⟨by rw [wanted_put ox a ox.dst undef hself]; exact hw, rfl⟩ (aUl _ _ _)) (by omega) hz0⟩
         | true =>
          rw [if_pos rfl]
          obtain ⟨obj, ob, hF, _, _, _⟩ := aCc hd.inv.rep hd.inv.glo hff haop
          refine .inl ?_
          unfold Oper.wp
          rw [hF w]
          have hc : Ch w (w.alloc obj) (fun _ => False) := Ch.alloc _ _ _
          have hinv : Inv gl E s (a.put ox.dst (nJ P ox.op obj w.heap.size)) (w.alloc obj) ρ F := by
           have := (Inv.of (hd.inv.rep.still hc) (hd.inv.stp.still hc) hd.inv.pk (hd.inv.glo.mono (fun b hb => hc.block b (hd.inv.h.froz b (.inl hb)).1 (fun h => h)) (fun _ h => h)) hd.inv.dfs).put ox.dst (x := .any) (v := nJ P ox.op obj w.heap.size) (by simp [VR])
           rwa [hany] at this
          refine ⟨fun q hq _ => hc.block q.2 (hd.pin q hq).1 (fun h => h), ih (.eff i dep frs :: r) fuel (by omega) ⟨hi, hdep, hall, hfrs, hnew, hst'⟩ (hd.pick (ob := some w.heap.size) hxr hxA hox hff (hoff hxr hox hxA) hinv (hd.pin.same hc.size) (fun b hb => hc.block b hb (fun h => h)) (fun b hb => by cases hb; exact Nat.le_refl _) ⟨by rw [wanted_put ox a ox.dst _ hself]; exact hw, ⟨obj, rfl, fun w1 => by rw [execOp_put ox (xD hff) a ox.dst _ hself]; exact hF w1, heap_alloc_new w _⟩, fun h =>?_, fun h =>?_, hd.inv.stp.ch.size, fun q hq =>?_⟩ (aUl _ _ _)) (by omega) hz0⟩
          ·have := hd.inv.h.own_lt h
           omega
          ·have := (hd.inv.h.froz _ h).1
           omega
          ·have := (hd.pin q hq).1
           omega
      ·obtain ⟨p, hp, hpi⟩ : ∃ p ∈ A, p.1 = i := by
        by_cases hh : ∃ p ∈ A, p.1 = i
        ·exact hh
        ·exact absurd (fun p hp e => hh ⟨p, hp, e⟩) hA
       obtain ⟨o', u, h1, h2, h3, h4⟩ := (hd.ok p hp).ex
       rw [hpi, ho] at h1
       cases h1
       have hst2 : vU ops (l.set p.1 true) r := by rw [hpi]; exact hst'
       generalize hpo : p.2 = ob0 at h4
       cases ob0 with
       | none =>
        obtain ⟨k1, rfl⟩ := h4
        rcases gF hd.inv.rep hz with ⟨j1, j2⟩ | ⟨j1, j2⟩
        ·rw [k1] at j1
         cases j1
        ·refine ih r fuel (by simp only [List.length_cons] at hn; omega) hst2 (hd.absorb hp (s' := s.put o.dst (.tup [])) (ρ' := ρ) ?_ hd.pin (fun b h => .inl h)) hc j2
         have := hd.inv.put o.dst (x := .tup []) (v := undef) (by simp [VR, VRs, undef])
         rwa [h3] at this
       | some b =>
        obtain ⟨k1, ⟨obj, k2, k3, k4⟩, k5, k6, k7, k8⟩ := h4
        rcases gF hd.inv.rep hz with ⟨j1, j2⟩ | ⟨j1, j2⟩
        ·split at j2
         ·obtain ⟨v, s', j3, j4⟩ := aWy h2 j2
          simp only [rM, h2, Bool.not_true, Bool.and_false, Bool.false_eq_true, if_false] at j4
          rw [bCa h2, aWz] at j4
          obtain ⟨obj', ob, i1, i2, i3, i4⟩ := aCc hd.inv.rep hd.inv.glo h2 j3
          have hobj : obj = obj' := by
           have e1 := k3 w
           rw [i1 w] at e1
           replace e1 := (Result.ok.inj e1).2
           have e2 := congrArg (fun x : World => x.heap[w.heap.size]?) e1
           rw [heap_alloc_new, heap_alloc_new] at e2
           exact (Option.some.inj e2).symm
          subst hobj
          subst i2
          have hlt : b < w.heap.size := (Array.getElem?_eq_some_iff.1 k4).1
          have hbm : ∀ c, blk (nJ P o.op obj b) = some c → c = b := fun c hc => ((bBy o.op obj b c).1 hc).symm
          have hrep := hd.inv.rep.adopt (i3 b k4) (fun c hc => by rw [hbm c hc]; exact ⟨hlt, k5, k6⟩)
          have hown : ∀ c, Own (ρ ++ [nJ P o.op obj b]) (s.hp ++ [ob]) c → Own ρ s.hp c ∨ c = b := fun c h => (yE hd.inv.h.len c h).imp id (hbm c)
          have hinv : Inv gl E { s with hp := s.hp ++ [ob] } a w (ρ ++ [nJ P o.op obj b]) F := by
           refine Inv.of hrep ⟨hd.inv.stp.ch, hd.inv.stp.fF, fun c h =>?_, hd.inv.stp.oF⟩ (fun n x hx =>?_) hd.inv.glo hd.inv.dfs
           ·rcases hown c h with h | rfl
            ·exact hd.inv.stp.oO c h
            ·exact .inr k7
           ·have := hd.inv.pk n x hx
            rw [getElem?_app ρ _ n (List.getElem?_eq_some_iff.1 this).1]
            exact this
          refine ih r fuel (by simp only [List.length_cons] at hn; omega) hst2 (hd.absorb hp (s' := ({ s with hp := s.hp ++ [ob] } : St).put o.dst v) (ρ' := ρ ++ [nJ P o.op obj b]) ?_ (fun q hq => ⟨(hd.pin q hq).1, fun n o2 y g1 g2 g3 g4 =>?_⟩) (fun c h => (hown c h).imp id (fun e => by rw [hpo, e]))) hc j4
          ·have := hinv.put o.dst (x := v) (v := nJ P o.op obj b) (i4 _ _ _ _ b (by rw [← hd.inv.h.len]; simp))
           rw [← k2, h3] at this
           rw [← k2]
           exact this
          ·by_cases c : n < ρ.length
           ·rw [getElem?_app ρ _ n c] at g3
            have g1' : (s.hp ++ [ob])[n]? = some o2 := g1
            rw [getElem?_app s.hp ob n (by rw [← hd.inv.h.len]; exact c)] at g1'
            exact (hd.pin q hq).2 n o2 y g1' g2 g3 g4
           ·rw [List.getElem?_append_right (by omega)] at g3
            have := List.mem_of_getElem? g3
            simp only [List.mem_singleton] at this
            subst this
            exact absurd (hbm _ g4) (k8 q hq)
         ·cases j2
        ·rw [k1] at j1
         cases j1
     | false => cases hz
end
inductive Sh
 | e (k : EK)
 | sln (k : EK)
 | lent (k : EK)
 | ptr (n off : Nat)
 | own (n : Nat)
 | any
 | ownC (n : Nat)
 | emp
 | nil
@[reducible] def Sh.T : Sh → Type
 | .e k => k.T
 | .sln k => List k.T
 | .lent k => List k.T
 | .ownC _ => Value
 | .emp => Option Addr × Nat
 | _ => Unit
def Sh.dec : (h : Sh) → AVal → Option h.T
 | .e (.st n), .agg l => (EK.st n).iv l
 | .e (.st _), _ => none
 | .e .int, v => v.leaf .int
 | .e .bool, v => v.leaf .bool
 | .e (.sl k), v => v.leaf (.sl k)
 | .sln k, .sln k' xs => if h : k' = k then some (h ▸ xs) else none
 | .sln _, .con v => if kE v then some [] else none
 | .lent k, .bsl k' xs => if h : k' = k then some (h ▸ xs) else none
 | .ptr n off, .ptr m off' => if m = n ∧ off' = off then some () else none
 | .own n, .own m => if m = n then some () else none
 | .own n, .ownC m _ => if m = n then some () else none
 | .ownC n, .ownC m c => if m = n then some c else none
 | .any, _ => some ()
 | .emp, .con (.slice a 0 c) => some (a, c)
 | .nil, .con v => if kE v then some () else none
 | _, _ => none
def Sh.enc : (h : Sh) → h.T → AVal
 | .e (.st n), x => .agg ((EK.st n).lv x)
 | .e .int, x => .int x
 | .e .bool, b => .bool b
 | .e (.sl k), xs => .sl k xs
 | .sln k, xs => .sln k xs
 | .lent k, xs => .bsl k xs
 | .ptr n off, _ => .ptr n off
 | .own n, _ => .own n
 | .ownC n, c => .ownC n c
 | .any, _ => .any
 | .emp, x => .con (.slice x.1 0 x.2)
 | .nil, _ => .con (.slice none 0 0)
def Sh.sz : Sh → Nat
 | .e (.st n) => n.ks.length
 | _ => 1
@[reducible] def ShL : List Sh → Type
 | [] => Unit
 | h :: r => h.T × ShL r
def ShL.dec : (l : List Sh) → List AVal → Option (ShL l)
 | [], [] => some ()
 | h :: r, v :: vs => (h.dec v).bind fun x => (ShL.dec r vs).bind fun y => some (x, y)
 | _, _ => none
def ShL.enc : (l : List Sh) → ShL l → List AVal
 | [], _ => []
 | h :: r, x => h.enc x.1 :: ShL.enc r x.2
def ShL.decC : (l : List Sh) → List AVal → Option (ShL l)
 | [], [] => some ()
 | .e (.st n) :: r, vs => ((EK.st n).iv (vs.take n.ks.length)).bind fun x => (ShL.decC r (vs.drop n.ks.length)).bind fun y => some (x, y)
 | h :: r, v :: vs => (h.dec v).bind fun x => (ShL.decC r vs).bind fun y => some (x, y)
 | _, _ => none
def ShL.encC : (l : List Sh) → ShL l → List AVal
 | [], _ => []
 | .e (.st n) :: r, x => (EK.st n).lv x.1 ++ ShL.encC r x.2
 | h :: r, x => h.enc x.1 :: ShL.encC r x.2
inductive Vh
 | s (h : Sh)
 | agg (l : List Sh)
 | clo (f : Nat) (l : List Sh)
@[reducible] def Vh.T : Vh → Type
 | .s h => h.T
 | .agg l => ShL l
 | .clo _ l => ShL l
def Vh.dec : (h : Vh) → AVal → Option h.T
 | .s h, v => h.dec v
 | .agg l, .agg vs => ShL.decC l vs
 | .clo f l, .clo g vs => if g = f then ShL.dec l vs else none
 | _, _ => none
def Vh.enc : (h : Vh) → h.T → AVal
 | .s h, x => h.enc x
 | .agg l, x => .agg (ShL.encC l x)
 | .clo f l, x => .clo f (ShL.enc l x)
@[reducible] def VhL : List Vh → Type
 | [] => Unit
 | h :: r => h.T × VhL r
def VhL.dec : (l : List Vh) → List AVal → Option (VhL l)
 | [], [] => some ()
 | h :: r, v :: vs => (h.dec v).bind fun x => (VhL.dec r vs).bind fun y => some (x, y)
 | _, _ => none
def VhL.enc : (l : List Vh) → VhL l → List AVal
 | [], _ => []
 | h :: r, x => h.enc x.1 :: VhL.enc r x.2
inductive OSh
 | box (l : List Sh)
 | arr (e : EK)
 | any
@[reducible] def OSh.T : OSh → Type
 | .box l => ShL l
 | .arr e => List e.T
 | .any => Unit
def OSh.dec : (h : OSh) → AObj → Option h.T
 | .box l, .box vs => ShL.decC l vs
 | .arr e, .arr e' xs => if h : e' = e then some (h ▸ xs) else none
 | .any, _ => some ()
 | _, _ => none
def OSh.enc : (h : OSh) → h.T → AObj
 | .box l, x => .box (ShL.encC l x)
 | .arr e, xs => .arr e xs
 | .any, _ => .dead
@[reducible] def OShL : List OSh → Type
 | [] => Unit
 | h :: r => h.T × OShL r
def OShL.dec : (l : List OSh) → List AObj → Option (OShL l)
 | [], [] => some ()
 | h :: r, v :: vs => (h.dec v).bind fun x => (OShL.dec r vs).bind fun y => some (x, y)
 | _, _ => none
def OShL.enc : (l : List OSh) → OShL l → List AObj
 | [], _ => []
 | h :: r, x => h.enc x.1 :: OShL.enc r x.2
def Sh.rows (h : Sh) (v : AVal) : List Nat := match h with
 | .e _ => v.rows
 | _ => []
def bCb : List Sh → List AVal → List Nat
 | [], _ => []
 | h :: r, vs => (match h with
   | .e _ => (vs.take h.sz).flatMap AVal.row1
   | _ => []) ++ bCb r (vs.drop h.sz)
def Vh.rows (h : Vh) (v : AVal) : List Nat := match h, v with
 | .s h, v => h.rows v
 | .agg l, .agg vs => bCb l vs
 | _, _ => []
def bCc : List Vh → List AVal → List Nat
 | h :: r, v :: vs => h.rows v ++ bCc r vs
 | _, _ => []
def aUm : List OSh → List AObj → List Nat
 | .box l :: r, .box vs :: os => bCb l vs ++ aUm r os
 | _ :: r, _ :: os => aUm r os
 | _, _ => []
def aUn (n0 : Nat) (vals : List AVal) (hp : List AObj) : Option (List AVal × List AObj) :=
 let ns := aEh hp 64 (List.range n0 ++ AVal.nmsL vals) []
 if ns.all (fun n => decide (n < hp.length)) && iD ns && (ns.take n0 == List.range n0) then some (AVal.mpl (sI (idxN ns)) vals, vS hp ns) else none
def dP (n0 : Nat) (vs : List Vh) (os : List OSh) (vals : List AVal) (s : St) : Option (VhL vs × OShL os) :=
 let r := pK (bCc vs vals) (.tup vals) s
 (aUn n0 r.1.untup r.2.hp).bind fun c =>
  let q := pK (aUm os c.2) (.tup c.1) { tm := [], hp := c.2 }
  (aUn n0 q.1.untup q.2.hp).bind fun d => (VhL.dec vs d.1).bind fun x => (OShL.dec os d.2).bind fun y => some (x, y)

section
variable {P : Program} {gl : Glb} {E : Ent} {ρ : List Value} {F L B : Nat → Prop} {s : St} {a : Act} {w : World}
theorem Sh.sound : ∀ {h : Sh} {v : AVal} {x : h.T} {u : Value}, h.dec v = some x → VR ρ w F B v u → VR ρ w F B (h.enc x) u := by
 intro h v x u hd hv
 cases h with
 | e k =>
  cases k with
  | st n =>
   cases v <;> simp only [Sh.dec, reduceCtorEq] at hd
   simp only [VR] at hv
   obtain ⟨cs, h1, h2⟩ := hv
   simp only [Sh.enc, VR]
   exact ⟨cs, h1, lU (nL hd h2)⟩
  | int =>
   simp only [Sh.dec] at hd
   have := cU hd hv
   simp only [Sh.enc, VR]
   cases this; rfl
  | bool =>
   simp only [Sh.dec] at hd
   have := cU hd hv
   simp only [Sh.enc, VR]
   cases this; rfl
  | sl k =>
   simp only [Sh.dec] at hd
   exact cU hd hv
 | sln k =>
  cases v <;> simp only [Sh.dec, reduceCtorEq] at hd
  ·split at hd
   ·rename_i he
    subst he
    cases hd
    exact hv
   ·cases hd
  ·split at hd
   ·rename_i hn
    cases hd
    simp only [VR] at hv
    simp only [Sh.enc, VR]
    rw [hv, cH hn]
    exact ⟨.nil k, fun _ => rfl⟩
   ·cases hd
 | lent k =>
  cases v <;> simp only [Sh.dec, reduceCtorEq] at hd
  split at hd
  ·rename_i he
   subst he
   cases hd
   exact hv
  ·cases hd
 | ptr n off =>
  cases v <;> simp only [Sh.dec, reduceCtorEq] at hd
  split at hd
  ·rename_i he
   obtain ⟨rfl, rfl⟩ := he
   exact hv
  ·cases hd
 | own n =>
  cases v <;> simp only [Sh.dec, reduceCtorEq] at hd
  ·split at hd
   ·rename_i he
    subst he
    exact hv
   ·cases hd
  ·split at hd
   ·rename_i he
    subst he
    exact hv.unC
   ·cases hd
 | ownC n =>
  cases v <;> simp only [Sh.dec, reduceCtorEq] at hd
  split at hd
  ·rename_i he
   subst he
   cases hd
   exact hv
  ·cases hd
 | any => simp [Sh.enc, VR]
 | emp =>
  cases v with
  | con c =>
   cases c with
   | slice a n k =>
    cases n with
    | zero => cases hd; exact hv
    | succ n => cases hd
   | _ => cases hd
  | _ => cases hd
 | nil =>
  cases v with
  | con c =>
   simp only [Sh.dec] at hd
   split at hd
   ·rename_i hn
    simp only [VR] at hv
    simp only [Sh.enc, VR]
    rw [hv, cH hn]
   ·cases hd
  | _ => cases hd
theorem ShL.sound : ∀ {l : List Sh} {vs : List AVal} {x : ShL l} {us : List Value}, ShL.dec l vs = some x → VRs ρ w F B vs us → VRs ρ w F B (ShL.enc l x) us
 | [], [], x, us, hd, hv => by cases us <;> simp_all [ShL.enc, VRs]
 | h :: r, v :: vs, x, [], hd, hv => by simp [VRs] at hv
 | h :: r, v :: vs, x, u :: us, hd, hv => by
  simp only [ShL.dec] at hd
  obtain ⟨y, h1, hd⟩ := Option.bind_eq_some_iff.1 hd
  obtain ⟨z, h2, hd⟩ := Option.bind_eq_some_iff.1 hd
  cases hd
  simp only [VRs] at hv
  simp only [ShL.enc, VRs]
  exact ⟨Sh.sound h1 hv.1, ShL.sound h2 hv.2⟩
 | [], _ :: _, x, us, hd, hv => by simp [ShL.dec] at hd
 | _ :: _, [], x, us, hd, hv => by simp [ShL.dec] at hd
theorem ShL.soundC : ∀ {l : List Sh} {vs : List AVal} {x : ShL l} {us : List Value}, ShL.decC l vs = some x → VRs ρ w F B vs us → VRs ρ w F B (ShL.encC l x) us
 | [], [], x, us, hd, hv => by cases us <;> simp_all [ShL.encC, VRs]
 | [], _ :: _, x, us, hd, hv => by simp [ShL.decC] at hd
 | h :: r, vs, x, us, hd, hv => by
  by_cases hst : ∃ n, h = .e (.st n)
  ·obtain ⟨n, rfl⟩ := hst
   simp only [ShL.decC] at hd
   obtain ⟨y, h1, hd⟩ := Option.bind_eq_some_iff.1 hd
   obtain ⟨z, h2, hd⟩ := Option.bind_eq_some_iff.1 hd
   cases hd
   simp only [ShL.encC]
   have k1 := hv.sub 0 n.ks.length
   simp only [List.drop_zero] at k1
   have k2 : VRs ρ w F B (vs.drop n.ks.length) (us.drop n.ks.length) := by
    have := hv.sub n.ks.length vs.length
    rw [List.take_of_length_le (by simp), List.take_of_length_le (by simp [hv.length])] at this
    exact this
   have := (lU (nL h1 k1)).append (ShL.soundC h2 k2)
   rwa [List.take_append_drop] at this
  ·have hdec : ∃ v vs', vs = v :: vs' ∧ ((h.dec v).bind fun x => (ShL.decC r vs').bind fun y => some (x, y)) = some x := by
    cases h with
    | e k => cases k <;> first|exact absurd ⟨_, rfl⟩ hst | (cases vs <;> first|exact ⟨_, _, rfl, hd⟩ | simp [ShL.decC] at hd)
    | _ => cases vs <;> first|exact ⟨_, _, rfl, hd⟩ | simp [ShL.decC] at hd
   clear hd
   obtain ⟨v, vs', rfl, hd2⟩ := hdec
   obtain ⟨y, h1, hd3⟩ := Option.bind_eq_some_iff.1 hd2
   obtain ⟨z, h2, hd4⟩ := Option.bind_eq_some_iff.1 hd3
   cases hd4
   cases us with
   | nil => simp [VRs] at hv
   | cons u us =>
    simp only [VRs] at hv
    have henc : ShL.encC (h :: r) (y, z) = h.enc y :: ShL.encC r z := by
     cases h with
     | e k => cases k <;> first|exact absurd ⟨_, rfl⟩ hst | rfl
     | _ => rfl
    rw [henc]
    simp only [VRs]
    exact ⟨Sh.sound h1 hv.1, ShL.soundC h2 hv.2⟩
theorem Vh.sound {h : Vh} {v : AVal} {x : h.T} {u : Value} (hd : h.dec v = some x) (hv : VR ρ w F B v u) : VR ρ w F B (h.enc x) u := by
 cases h with
 | s h => exact Sh.sound hd hv
 | agg l =>
  cases v <;> simp only [Vh.dec, reduceCtorEq] at hd
  simp only [VR] at hv
  obtain ⟨cs, h1, h2⟩ := hv
  simp only [Vh.enc, VR]
  exact ⟨cs, h1, ShL.soundC hd h2⟩
 | clo f l =>
  cases v <;> simp only [Vh.dec, reduceCtorEq] at hd
  split at hd
  ·rename_i he
   subst he
   simp only [VR] at hv
   obtain ⟨cs, h1, h2⟩ := hv
   simp only [Vh.enc, VR]
   exact ⟨cs, h1, ShL.sound hd h2⟩
  ·cases hd
theorem VhL.sound : ∀ {l : List Vh} {vs : List AVal} {x : VhL l} {us : List Value}, VhL.dec l vs = some x → VRs ρ w F B vs us → VRs ρ w F B (VhL.enc l x) us
 | [], [], x, us, hd, hv => by cases us <;> simp_all [VhL.enc, VRs]
 | h :: r, v :: vs, x, [], hd, hv => by simp [VRs] at hv
 | h :: r, v :: vs, x, u :: us, hd, hv => by
  simp only [VhL.dec] at hd
  obtain ⟨y, h1, hd⟩ := Option.bind_eq_some_iff.1 hd
  obtain ⟨z, h2, hd⟩ := Option.bind_eq_some_iff.1 hd
  cases hd
  simp only [VRs] at hv
  simp only [VhL.enc, VRs]
  exact ⟨Vh.sound h1 hv.1, VhL.sound h2 hv.2⟩
 | [], _ :: _, x, us, hd, hv => by simp [VhL.dec] at hd
 | _ :: _, [], x, us, hd, hv => by simp [VhL.dec] at hd
theorem OSh.sound {h : OSh} {o : AObj} {x : h.T} {v : Value} (hd : h.dec o = some x) (hv : OR ρ w F B v o) : OR ρ w F B v (h.enc x) := by
 cases h with
 | box l =>
  cases o <;> simp only [OSh.dec, reduceCtorEq] at hd
  obtain ⟨b, cs, ty, h1, h2, h3⟩ := hv
  exact ⟨b, cs, ty, h1, h2, ShL.soundC hd h3⟩
 | arr e =>
  cases o <;> simp only [OSh.dec, reduceCtorEq] at hd
  split at hd
  ·rename_i he
   subst he
   cases hd
   exact hv
  ·cases hd
 | any => trivial
theorem OSh.live {h : OSh} {o : AObj} {x : h.T} (hd : h.dec o = some x) (hl : (h.enc x).live = true) : o.live = true := by
 cases h with
 | box l => cases o <;> simp only [OSh.dec, reduceCtorEq] at hd; rfl
 | arr e => cases o <;> simp only [OSh.dec, reduceCtorEq] at hd; rfl
 | any => simp [OSh.enc, AObj.live] at hl
theorem OShL.at : ∀ {l : List OSh} {os : List AObj} {x : OShL l}, OShL.dec l os = some x → (OShL.enc l x).length = os.length ∧ ∀ (n : Nat) (o' : AObj), (OShL.enc l x)[n]? = some o' → ∃ (h : OSh) (y : h.T) (o : AObj), os[n]? = some o ∧ h.dec o = some y ∧ o' = h.enc y
 | [], [], x, hd => ⟨rfl, fun n o' h => by simp [OShL.enc] at h⟩
 | h :: r, o :: os, x, hd => by
  simp only [OShL.dec] at hd
  obtain ⟨y, h1, hd⟩ := Option.bind_eq_some_iff.1 hd
  obtain ⟨z, h2, hd⟩ := Option.bind_eq_some_iff.1 hd
  cases hd
  obtain ⟨i1, i2⟩ := OShL.at h2
  refine ⟨by simp [OShL.enc, i1], fun n o' hn =>?_⟩
  cases n with
  | zero =>
   simp [OShL.enc] at hn
   exact ⟨h, y, o, rfl, h1, hn.symm⟩
  | succ n => exact i2 n o' (by simpa [OShL.enc] using hn)
 | [], _ :: _, x, hd => by simp [OShL.dec] at hd
 | _ :: _, [], x, hd => by simp [OShL.dec] at hd
theorem OShL.own {l : List OSh} {os : List AObj} {x : OShL l} (hd : OShL.dec l os = some x) {b : Nat} (h : Own ρ (OShL.enc l x) b) : Own ρ os b := by
 obtain ⟨n, o, v, k1, k2, k3, k4⟩ := h
 obtain ⟨g, y, o0, j1, j2, rfl⟩ := (OShL.at hd).2 n o k1
 exact ⟨n, o0, v, j1, OSh.live j2 k2, k3, k4⟩
theorem OShL.sound {l : List OSh} {os : List AObj} {x : OShL l} (hd : OShL.dec l os = some x) (h : RepH ρ F L os w) : RepH ρ F L (OShL.enc l x) w := by
 obtain ⟨i1, i2⟩ := OShL.at hd
 refine ⟨by rw [i1]; exact h.len, fun n o v k1 k2 =>?_, fun n m o o' v v' b k1 k2 k3 k4 k5 k6 k7 k8 =>?_, fun b hb => ⟨(h.froz b hb).1, fun ho => (h.froz b hb).2 (OShL.own hd ho)⟩⟩
 ·obtain ⟨g, y, o0, j1, j2, rfl⟩ := i2 n o k1
  exact OSh.sound j2 (h.ob n o0 v j1 k2)
 ·obtain ⟨g, y, o0, j1, j2, rfl⟩ := i2 n o k1
  obtain ⟨g', y', o1, j3, j4, rfl⟩ := i2 m o' k2
  exact h.dist n m o0 o1 v v' b j1 j3 (OSh.live j2 k3) (OSh.live j4 k4) k5 k6 k7 k8
def nil : Act := { tmps := #[], defers := [] }
theorem RepH.rep {hp : List AObj} (h : RepH ρ F L hp w) : Rep ρ F L { tm := [], hp := hp } nil w := ⟨by simp [nil, VRs], h⟩
theorem xF {n0 : Nat} (hn0 : E.ρ.length = n0) {hp : List AObj} (hI : InvH gl E hp w ρ F) {vals vals' : List AVal} {hp' : List AObj} {us : List Value} (hv : VRs ρ w F (Bx F E.L) vals us) (h : aUn n0 vals hp = some (vals', hp')) : ∃ ρ', InvH gl E hp' w ρ' F ∧ VRs ρ' w F (Bx F E.L) vals' us := by
 unfold aUn at h
 dsimp only at h
 generalize hns : aEh hp 64 (List.range n0 ++ AVal.nmsL vals) [] = ns at h
 split at h
 ·rename_i hc
  cases h
  simp only [Bool.and_eq_true, List.all_eq_true, decide_eq_true_eq, beq_iff_eq] at hc
  obtain ⟨⟨c1, c2⟩, c3⟩ := hc
  have hl' : ∀ n ∈ ns, n < ρ.length := fun n h => by rw [hI.h.len]; exact c1 n h
  refine ⟨pR ρ ns, ⟨aUj hI.h.rep c1 c2 (fun _ h => h) (fun b h => .inl h), ⟨hI.stp.ch, hI.stp.fF, fun b hb =>?_, hI.stp.oF⟩, fun n x hx =>?_, hI.glo⟩, (VR.mp (fun v z hv' hz => oD hv' hz (fun _ h => h) (fun m m' u _ k1 k2 => aBx hl' k1 k2))).2 _ _ hv⟩
  ·obtain ⟨n, o, v, _, k2, k3, k4, k5⟩ := sS hl' c1 hb
   exact hI.stp.oO b ⟨n, o, v, k2, k3, k4, k5⟩
  ·have hlt : n < n0 := by rw [← hn0]; exact (List.getElem?_eq_some_iff.1 hx).1
   refine (nC hl').2 ⟨n, ?_, hI.pk n x hx⟩
   have : (ns.take n0)[n]? = some n := by rw [c3]; simp [hlt]
   rw [List.getElem?_take] at this
   simpa [hlt] using this
 ·cases h
theorem aUo {hp : List AObj} {tm : List AVal} {a : Act} (hR : Rep ρ F E.L { tm := tm, hp := hp } a w) (hI : InvH gl E hp w ρ F) {rs : List Nat} {vals : List AVal} {us : List Value} (hv : VRs ρ w F (Bx F E.L) vals us) :
  ∃ F', InvH gl E (pK rs (.tup vals) { tm := tm, hp := hp }).2.hp w ρ F' ∧ VRs ρ w F' (Bx F' E.L) (pK rs (.tup vals) { tm := tm, hp := hp }).1.untup us := by
 obtain ⟨F1, g1, g2, g3⟩ := iB rs hR (v := .tup vals) (x := .tuple us.toArray) (by simp only [VR]; exact ⟨us.toArray, rfl, by simpa using hv⟩)
 obtain ⟨as0, g4⟩ := sQ rs vals { tm := tm, hp := hp }
 rw [g4] at g3
 simp only [VR, Value.tuple.injEq] at g3
 obtain ⟨cs, hcs, g5⟩ := g3
 subst hcs
 refine ⟨F1, ⟨g1.h, hI.stp.trans g2, hI.pk, hI.glo.mono (fun _ _ => rfl) g2.fF⟩, ?_⟩
 rw [g4]
 simpa [AVal.untup] using g5
theorem bV {n0 : Nat} (hn0 : E.ρ.length = n0) {vs : List Vh} {os : List OSh} {vals : List AVal} {us : List Value} {a : Act} (hR : Rep ρ F E.L s a w) (hI : InvH gl E s.hp w ρ F) (hv : VRs ρ w F (Bx F E.L) vals us) {x : VhL vs × OShL os} (h : dP n0 vs os vals s = some x) :
  ∃ ρ' F', InvH gl E (OShL.enc os x.2) w ρ' F' ∧ VRs ρ' w F' (Bx F' E.L) (VhL.enc vs x.1) us := by
 unfold dP at h
 dsimp only at h
 obtain ⟨F1, h1, h2⟩ := aUo hR hI (rs := bCc vs vals) hv
 obtain ⟨⟨c1, c2⟩, h3, h⟩ := Option.bind_eq_some_iff.1 h
 obtain ⟨ρ1, h4, h5⟩ := xF hn0 h1 h2 h3
 obtain ⟨F2, h6, h7⟩ := aUo h4.h.rep h4 (rs := aUm os c2) h5
 obtain ⟨⟨d1, d2⟩, h8, h⟩ := Option.bind_eq_some_iff.1 h
 obtain ⟨ρ2, h9, h10⟩ := xF hn0 h6 h7 h8
 obtain ⟨y, h11, h⟩ := Option.bind_eq_some_iff.1 h
 obtain ⟨z, h12, h⟩ := Option.bind_eq_some_iff.1 h
 cases h
 exact ⟨ρ2, F2, ⟨OShL.sound h12 h9.h, ⟨h9.stp.ch, h9.stp.fF, fun b hb => h9.stp.oO b (OShL.own h12 hb), h9.stp.oF⟩, h9.pk, h9.glo⟩, VhL.sound h11 h10⟩
end
end Go.Ax
