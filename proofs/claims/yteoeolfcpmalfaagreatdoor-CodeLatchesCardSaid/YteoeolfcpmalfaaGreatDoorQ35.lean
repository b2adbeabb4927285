/- The operations, by the rule: those that look, fuse, all. -/
import Derived.Test.YteoeolfcpmalfaaGreatDoorQ34
import Derived.Test.YteoeolfcpmalfaaGreatDoorQ33
namespace Go.Ax.Cd
set_option linter.unusedVariables false
section
variable {N : Nat} {ro : Bool} {n : Nat} {s : RS} {c : Cfg} {got held : List Int}
theorem eachO_sat (hg : got.length = N) (hN : N ≤ 1000) (hn : n ≤ N) {w r er id : Int} {ps : List Pr} {sd sd2 : Sid} {u1 u2 : List En} (hu : u1.length ≤ n) {Q : Nat → RS → List En → Prop} (hq : ∀ n' x, n < n' → n' ≤ N → x.length ≤ n' → Q n' s x) : (eachOTr w r sd c got held sd2 er id ps u1 u2).sat N (rule ro) n s Q := by
  unfold eachOTr
  refine T.sat_bind (load_sat fun h1 x1 hx1 => ?_)
  refine T.sat_bind (T.sat_loop (fun n' s' x => n < n' ∧ s' = s ∧ x.1.length ≤ n') ?_ _ _ _ _ (by omega) (by omega) ⟨by omega, rfl, by show u1.length ≤ _; omega⟩)
  rintro n1 s1 ⟨u1, v15⟩ ⟨hI, rfl, hl⟩ hn1
  unfold eachOL0Step
  dsimp only at hl ⊢
  refine T.sat_cond (fun _ => ?_) (fun _ => hq _ _ hI hn1 hl)
  refine T.sat_bind ?_
  unfold endsCoTr
  refine T.sat_bind (load_sat fun h2 x2 hx2 => ?_)
  refine T.sat_bind (load_sat fun h4 x4 hx4 => ?_)
  rw [decide_eq_true (by simp; omega), cond_true]
  refine T.sat_bind (next_sat fun h3 x3 hx3 => ?_)
  exact ⟨by omega, by omega, rfl, by simp; omega⟩
theorem eachI_sat (hg : got.length = N) (hN : N ≤ 1000) (hn : n ≤ N) {w r er id : Int} {ps : List Pr} {sd sd2 : Sid} {u1 u2 : List En} (hu : u2.length ≤ n) {Q : Nat → RS → List En → Prop} (hq : ∀ n' x, n < n' → n' ≤ N → x.length ≤ n' → Q n' s x) : (eachITr w r sd c got held sd2 er id ps u1 u2).sat N (rule ro) n s Q := by
  unfold eachITr
  refine T.sat_bind (load_sat fun h1 x1 hx1 => ?_)
  refine T.sat_bind (T.sat_loop (fun n' s' x => n < n' ∧ s' = s ∧ x.1.length ≤ n') ?_ _ _ _ _ (by omega) (by omega) ⟨by omega, rfl, by show u2.length ≤ _; omega⟩)
  rintro n1 s1 ⟨u2, v15⟩ ⟨hI, rfl, hl⟩ hn1
  unfold eachIL0Step
  dsimp only at hl ⊢
  refine T.sat_cond (fun _ => ?_) (fun _ => hq _ _ hI hn1 hl)
  refine T.sat_bind ?_
  unfold endsCiTr
  refine T.sat_bind (load_sat fun h2 x2 hx2 => ?_)
  refine T.sat_bind (load_sat fun h4 x4 hx4 => ?_)
  rw [decide_eq_true (by simp; omega), cond_true]
  refine T.sat_bind (next_sat fun h3 x3 hx3 => ?_)
  exact ⟨by omega, by omega, rfl, by simp; omega⟩
theorem sortG_of {n : Nat} (h : n ≤ 1000000) : sortG n = true := decide_eq_true h
theorem ends_sat (hg : got.length = N) (hN : N ≤ 1000) (hn : n ≤ N) {w r : Int} {Q : Nat → RS → Res → Prop} (hq : ∀ n' x, n < n' → n' ≤ N → Sm x → Q n' s x) : (endsTr w r c got held).sat N (rule ro) n s Q := by
  unfold endsTr
  refine T.sat_bind (eachO_sat hg hN hn (by simp) fun n1 x1 h1 h2 h3 => ?_)
  refine T.sat_gret (sortG_of (by omega)) ?_
  refine T.sat_bind (eachI_sat hg hN h2 (by simp) fun n4 x4 h4 h5 h6 => ?_)
  refine T.sat_gret (sortG_of (by omega)) ?_
  exact hq _ _ (by omega) h5 ⟨Nat.zero_le _, by show (sortEn x1).length ≤ _; rw [sortEn, isort_len]; omega, by show (sortEn x4).length ≤ _; rw [sortEn, isort_len]; omega⟩
theorem walkP_sat (hg : got.length = N) (hN : N ≤ 1000) (hn : n ≤ N) {w r er id : Int} {eo ei : List En} {pr : List Pr} (hu : pr.length ≤ n) {Q : Nat → RS → List Pr → Prop} (hq : ∀ n' x, n ≤ n' → n' ≤ N → x.length ≤ n' → Q n' s x) : (walkPTr w r c got held er id eo ei pr).sat N (rule ro) n s Q := by
  unfold walkPTr
  refine T.sat_bind (T.sat_loop (fun n' s' x => n ≤ n' ∧ s' = s ∧ x.1.length ≤ n') ?_ _ _ _ _ (by omega) hn ⟨by omega, rfl, hu⟩)
  rintro n1 s1 ⟨pr, v15, v16, v19⟩ ⟨hI, rfl, hl⟩ hn1
  unfold walkPL0Step
  dsimp only at hl ⊢
  refine T.sat_cond (fun _ => ?_) (fun _ => hq _ _ hI hn1 hl)
  refine T.sat_bind ?_
  unfold pairsCTr
  refine T.sat_bind (load_sat fun h2 x2 hx2 => ?_)
  refine T.sat_bind (load_sat fun h4 x4 hx4 => ?_)
  rw [decide_eq_true (by simp; omega), cond_true]
  refine T.sat_bind (next_sat fun h3 x3 hx3 => ?_)
  exact ⟨by omega, by omega, rfl, by simp; omega⟩
theorem pairs_sat (hg : got.length = N) (hN : N ≤ 1000) (hn : n ≤ N) {w r : Int} {Q : Nat → RS → Res → Prop} (hq : ∀ n' x, n < n' → n' ≤ N → Sm x → Q n' s x) : (pairsTr w r c got held).sat N (rule ro) n s Q := by
  unfold pairsTr
  refine T.sat_bind (load_sat fun h1 x1 hx1 => ?_)
  refine T.sat_bind (walkP_sat hg hN (by omega) (by simp) fun n2 x2 h2 h3 h4 => ?_)
  refine T.sat_gret (sortG_of (by omega)) ?_
  exact hq _ _ (by omega) h3 ⟨by show (sortPr x2).length ≤ _; rw [sortPr, isort_len]; omega, Nat.zero_le _, Nat.zero_le _⟩
theorem lookP_sat (hg : got.length = N) (hN : N ≤ 1000) (hn : n ≤ N) (hs : s.2 = []) {m : Int} {Q : Nat → RS → Res → Prop} (hq : ∀ n' x, n ≤ n' → n' ≤ N → Sm x → Q n' s x) : (lookPTr m c got held).sat N (rule ro) n s Q := by
  unfold lookPTr
  refine T.sat_bind (known1_sat fun r => ?_)
  refine T.sat_cond (fun _ => hq _ _ (by omega) hn sm0) (fun _ => ?_)
  refine T.sat_bind (T.sat_loop (fun n' s' _ => n ≤ n' ∧ s' = s) ?_ _ _ _ _ (by omega) hn ⟨by omega, rfl⟩)
  rintro n1 s1 v ⟨hI, rfl⟩ hn1
  unfold lookPL0Step
  refine T.sat_bind (see_sat hs fun h1 x1 hx1 => ?_)
  refine T.sat_bind (find_sat fun h2 x2 hx2 => ?_)
  refine T.sat_cond (fun _ => hq _ _ (by omega) (by omega) sm0) (fun _ => ?_)
  refine T.sat_bind (pairs_sat hg hN (by omega) fun n3 x3 h3 h4 hsm => ?_)
  refine T.sat_bind (see_sat hs fun h5 x5 hx5 => ?_)
  exact T.sat_cond (fun _ => hq _ _ (by omega) (by omega) hsm) (fun _ => ⟨by omega, by omega, rfl⟩)
theorem lookN_sat (hg : got.length = N) (hN : N ≤ 1000) (hn : n ≤ N) (hs : s.2 = []) {m : Int} {Q : Nat → RS → Res → Prop} (hq : ∀ n' x, n ≤ n' → n' ≤ N → Sm x → Q n' s x) : (lookNTr m c got held).sat N (rule ro) n s Q := by
  unfold lookNTr
  refine T.sat_bind (known1_sat fun r => ?_)
  refine T.sat_cond (fun _ => hq _ _ (by omega) hn sm0) (fun _ => ?_)
  refine T.sat_bind (T.sat_loop (fun n' s' _ => n ≤ n' ∧ s' = s) ?_ _ _ _ _ (by omega) hn ⟨by omega, rfl⟩)
  rintro n1 s1 v ⟨hI, rfl⟩ hn1
  unfold lookNL0Step
  refine T.sat_bind (see_sat hs fun h1 x1 hx1 => ?_)
  refine T.sat_bind (find_sat fun h2 x2 hx2 => ?_)
  refine T.sat_cond (fun _ => hq _ _ (by omega) (by omega) sm0) (fun _ => ?_)
  refine T.sat_bind (ends_sat hg hN (by omega) fun n3 x3 h3 h4 hsm => ?_)
  refine T.sat_bind (see_sat hs fun h5 x5 hx5 => ?_)
  exact T.sat_cond (fun _ => hq _ _ (by omega) (by omega) hsm) (fun _ => ⟨by omega, by omega, rfl⟩)
/-! ### fuse -/
theorem walkF_sat (hg : got.length = N) (hn : n ≤ N) {w r k : Int} {Q : Nat → RS → Bool → Prop} (hq : ∀ n' b, n ≤ n' → n' ≤ N → Q n' s b) : (walkFTr w r c got held k).sat N (rule ro) n s Q := by
  unfold walkFTr
  refine T.sat_bind (T.sat_loop (fun n' s' _ => n ≤ n' ∧ s' = s) ?_ _ _ _ _ (by omega) hn ⟨by omega, rfl⟩)
  rintro n1 s1 ⟨v12, v13, v16⟩ ⟨hI, rfl⟩ hn1
  unfold walkFL0Step
  dsimp only
  refine T.sat_cond (fun _ => ?_) (fun _ => hq _ _ hI hn1)
  refine T.sat_bind ?_
  unfold fuseCTr
  refine T.sat_bind (load_sat fun h1 x1 hx1 => ?_)
  refine T.sat_cond (fun _ => hq _ _ (by omega) (by omega)) (fun _ => ?_)
  exact T.sat_bind (next_sat fun h3 x3 hx3 => ⟨by omega, by omega, rfl⟩)
theorem holdF_sat (hg : got.length = N) (hN : N ≤ 1000) (hn : n ≤ N) (hr : ro = false) (hs : s.2 = []) (h0 : Dn s held) {m a xw xr : Int} {more : List Int} (hm : more ≠ []) (hm2 : Ls 2 more) {Q : Nat → RS → (Int × Bool × List Int × Int) ⊕ (Int × List Int × Int × Int) → Prop}
    (hq : ∀ n' s' x, n ≤ n' → n' ≤ N → Dn s' x.2.2.1 → (x.2.1 = true → Wr ro s') → Q n' s' (.inl x)) (hq2 : ∀ n' s' x, n ≤ n' → n' ≤ N → Dn s' x.2.1 → Q n' s' (.inr x)) : (holdFTr m more c got held a xw xr).sat N (rule ro) n s Q := by
  unfold holdFTr
  refine T.sat_bind (find_sat fun h1 x1 hx1 => ?_)
  refine T.sat_cond (fun _ => hq2 _ _ _ (by omega) (by omega) h0) (fun _ => ?_)
  refine T.sat_bind (around_sat hg hN (by omega) fun n2 x2 h2 h3 h4 => ?_)
  have hl := h4.1
  have hl2 := hm2.1
  rw [decide_eq_true (by omega), cond_true]
  refine T.sat_bind (T.sat_loop (fun n' s' x => n ≤ n' ∧ s'.2 = [] ∧ x.2.2.2.2.2 ≠ [] ∧ Ls 2002 x.2.2.2.2.2) ?_ _ _ _ _ (by omega) h3 ⟨by omega, hs, by simpa using fun _ => hm, h4.append (B := 0) hm2⟩)
  rintro n5 s5 ⟨held5, xw, xr, v15, v16, v17⟩ ⟨h5, h6, h7, h8⟩ hn5
  dsimp only at h7 h8
  unfold holdFL0Step
  dsimp only
  have h81 := h8.1
  refine T.sat_bind (latch_sat hg hn5 h6 (by omega) h8.2 h7 fun n9 h9 h10 => ?_)
  have hw : Wr ro (false, (ordSet v17).reverse) := .set hr h7
  have hD : Dn (false, (ordSet v17).reverse) (ordSet v17) := .set _ (by omega) h8.2
  generalize ordSet v17 = S at hw hD
  refine T.sat_bind (find_sat fun h11 x11 hx11 => ?_)
  refine T.sat_cond (fun _ => hq2 _ _ _ (by omega) (by omega) hD) (fun _ => ?_)
  refine T.sat_bind ?_
  unfold fuseC1Tr
  refine T.sat_bind (find_sat fun h18 x18 hx18 => ?_)
  refine T.sat_cond (fun _ => hq _ _ _ (by omega) (by omega) hD (fun h => by cases h)) (fun _ => ?_)
  refine T.sat_bind (around_sat hg hN (by omega) fun n12 x12 h12 h13 h14 => ?_)
  have hl3 := h14.1
  rw [decide_eq_true (by omega), cond_true]
  have h15 := h14.append (B := 0) hm2
  refine T.sat_gret (by rw [ordG_of (by have := h15.1; omega) h15.2, ordG_of hD.2.1 hD.2.2]; rfl) ?_
  refine T.sat_cond (fun _ => hq _ _ _ (by omega) h13 hD (fun _ => hw)) (fun _ => ?_)
  refine T.sat_bind (free_sat hD.1 hD.2.1 h13 fun n16 b h16 h17 => ?_)
  exact ⟨by omega, by omega, rfl, by simpa using fun _ => hm, h15⟩
theorem fuse_sat (hg : got.length = N) (hN : N ≤ 1000) (hn : n ≤ N) (hr : ro = false) (hs : s.2 = []) (h0 : Dn s held) {a b : Int} (ha : In64 a) (hb : In64 b) : (fuseTr a b c got held).sat N (rule ro) n s QD := by
  unfold fuseTr
  refine T.sat_cond (fun _ => ⟨h0, sm0⟩) (fun _ => ?_)
  refine T.sat_bind (known2_sat fun r => ?_)
  refine T.sat_cond (fun _ => ⟨h0, sm0⟩) (fun _ => ?_)
  refine T.sat_bind (holdF_sat hg hN hn hr hs h0 (by simp) ⟨by simp, all2 ha hb⟩ (fun n1 s1 x1 h1 h2 hD hw1 => ?_) (fun n1 s1 x1 h1 h2 hD => ⟨hD, sm0⟩))
  refine T.sat_cond (fun _ => ⟨hD, sm0⟩) (fun hb => ?_)
  have hw := hw1 (by simpa using hb)
  refine T.sat_bind (T.sat_loop (fun n' s' v => n1 ≤ n' ∧ s' = s1 ∧ (v = 0 ∨ v = 1 ∨ v = 2)) ?_ _ _ _ _ (by omega) h2 ⟨by omega, rfl, .inl rfl⟩)
  rintro n3 s3 v14 ⟨h3, rfl, hv⟩ hn3
  unfold fuseL0Step
  dsimp only
  refine T.sat_cond (fun hlt => ?_) (fun _ => ?_)
  · have hi : inR v14 2 = true := by
      have := of_decide_eq_true hlt
      simp [inR]; omega
    have hv1 : w64 (v14 + 1) = 0 ∨ w64 (v14 + 1) = 1 ∨ w64 (v14 + 1) = 2 := by
      have := of_decide_eq_true hlt
      rcases hv with rfl | rfl | rfl
      · exact .inr (.inl (by rw [w64_id] <;> omega))
      · exact .inr (.inr (by rw [w64_id] <;> omega))
      · omega
    rw [hi, cond_true]
    refine T.sat_bind (load_sat fun h4 x4 hx4 => ?_)
    refine T.sat_bind (T.sat_loop (fun n' s' _ => n3 < n' ∧ s' = s3) ?_ _ _ _ _ (by omega) (by omega) ⟨by omega, rfl⟩)
    rintro n5 s5 ⟨v35, v36, v38, v39, v42⟩ ⟨h5, rfl⟩ hn5
    unfold fuseL1Step
    dsimp only
    have hcont : ∀ {n : Nat}, n3 < n → n ≤ N → n3 < n ∧ n1 ≤ n ∧ s5 = s5 ∧ (w64 (v14 + 1) = 0 ∨ w64 (v14 + 1) = 1 ∨ w64 (v14 + 1) = 2) := fun h _ => ⟨h, by omega, rfl, hv1⟩
    refine T.sat_cond (fun _ => T.sat_cond (fun _ => ?_) (fun _ => ?_)) (fun _ => ?_)
    · exact T.sat_bind (store_sat hw fun h6 => T.sat_bind (next_sat fun h7 x7 hx7 => ⟨by omega, by omega, rfl⟩))
    · exact T.sat_bind (store_sat hw fun h6 => T.sat_bind (next_sat fun h7 x7 hx7 => ⟨by omega, by omega, rfl⟩))
    · refine T.sat_cond (fun _ => ?_) (fun _ => hcont h5 hn5)
      exact T.sat_bind (load_sat fun h8 x8 hx8 => T.sat_bind (store_sat hw fun h9 => T.sat_bind (store_sat hw fun h10 => hcont (by omega) (by omega))))
  · refine T.sat_bind (load_sat fun h4 x4 hx4 => ?_)
    refine T.sat_bind (T.sat_loop (fun n' s' _ => n3 < n' ∧ s' = s3) ?_ _ _ _ _ (by omega) (by omega) ⟨by omega, rfl⟩)
    rintro n5 s5 v21 ⟨h5, rfl⟩ hn5
    unfold fuseL2Step
    dsimp only
    refine T.sat_cond (fun _ => ?_) (fun _ => ?_)
    · refine T.sat_bind (load_sat fun h6 x6 hx6 => T.sat_bind (next_sat fun h7 x7 hx7 => T.sat_bind (load_sat fun h8 x8 hx8 => ?_)))
      refine T.sat_bind (walkF_sat hg (by omega) fun n9 b h9 h10 => ?_)
      refine T.sat_cond (fun _ => ?_) (fun _ => ?_)
      · exact T.sat_bind (retire_sat hw fun h11 => ⟨by omega, by omega, rfl⟩)
      · exact T.sat_bind (store_sat hw fun h11 => T.sat_bind (store_sat hw fun h12 => ⟨by omega, by omega, rfl⟩))
    · exact T.sat_bind (set_sat hw fun h6 => T.sat_bind (retire_sat hw fun h7 => ⟨hD, sm0⟩))
/-! ### All -/
theorem program_sat (hg : got.length = N) (hN : N ≤ 1000) (hn : n ≤ N) (hs : s.2 = []) (h0 : Dn s held) {o : Opn} (ha : In64 o.a) (hb : In64 o.b) (hr : ¬ (o.kind = 6 ∨ o.kind = 7) → ro = false) : (programTr o c got held).sat N (rule ro) n s QD := by
  unfold programTr
  have e : ∀ {k : Int} {P : Prop}, (o.kind == k) = true → ¬ (k = 6 ∨ k = 7) → ro = false := fun {k P} h h2 => hr (by rw [eq_of_beq h]; exact h2)
  refine T.sat_cond (fun h => T.sat_bind (add_sat hg hn (e (P := True) h (by decide)) hs)) (fun _ => ?_)
  refine T.sat_cond (fun h => T.sat_bind (link_sat hg hn (e (P := True) h (by decide)) hs h0 ha hb)) (fun _ => ?_)
  refine T.sat_cond (fun h => T.sat_bind (cut_sat hg hn (e (P := True) h (by decide)) h0)) (fun _ => ?_)
  refine T.sat_cond (fun h => T.sat_bind (setProp_sat hg hn (e (P := True) h (by decide)) hs h0 ha)) (fun _ => ?_)
  refine T.sat_cond (fun h => T.sat_bind (delProp_sat hg hn (e (P := True) h (by decide)) hs h0 ha)) (fun _ => ?_)
  refine T.sat_cond (fun h => T.sat_bind (lookP_sat hg hN hn hs fun n1 x1 h1 h2 h3 => ⟨h0, h3⟩)) (fun _ => ?_)
  refine T.sat_cond (fun h => T.sat_bind (lookN_sat hg hN hn hs fun n1 x1 h1 h2 h3 => ⟨h0, h3⟩)) (fun _ => ?_)
  refine T.sat_cond (fun h => T.sat_bind (drop_sat hg hN hn (e (P := True) h (by decide)) hs h0 ha)) (fun _ => ?_)
  refine T.sat_cond (fun h => T.sat_bind (fuse_sat hg hN hn (e (P := True) h (by decide)) hs h0 ha hb)) (fun _ => ⟨h0, sm0⟩)
end
end Go.Ax.Cd
/- A whole operation, by the rule: Pin first, End last. -/
namespace Go.Ax.Cd
set_option linter.unusedVariables false
theorem T.sat_lift {σ σ2 α : Type} {N : Nat} {st : σ → Acc → Option σ} {st2 : σ2 → Acc → Option σ2} {f : σ → σ2} (hf : ∀ s c s', st s c = some s' → st2 (f s) c = some (f s')) {t : T α} : ∀ {n : Nat} {s : σ} {Q : Nat → σ → α → Prop}, t.sat N st n s Q → t.sat N st2 n (f s) (fun n x a => ∃ s', x = f s' ∧ Q n s' a) := by
  induction t with
  | ret a => intro n s Q h; exact ⟨s, rfl, h⟩
  | ask c k ih => rintro n s Q ⟨s', h1, h2⟩; exact ⟨f s', hf _ _ _ h1, fun hn x hx => ih x (h2 hn x hx)⟩
  | bot => intro n s Q h; exact h
abbrev pinA : Acc := ⟨1, 0, 0, 0, 0, 0⟩
abbrev endA : Acc := ⟨2, 0, 0, 0, 0, 0⟩
/-- An access of kind k alone. -/
def bare (k : Int) (a : Acc) : Bool := a.kind == k && a.at_ == 0 && a.which == 0 && a.ref == 0 && a.field == 0 && a.value == 0
/-- With its beginning and its end. -/
def ruleR (ro : Bool) (s : Nat × RS) (a : Acc) : Option (Nat × RS) :=
  if s.1 = 0 then (if bare 1 a then some (1, s.2) else none)
  else if s.1 = 1 then (if a.kind = 2 then (if bare 2 a ∧ s.2.2 = [] then some (2, s.2) else none) else (rule ro s.2 a).map fun s' => (1, s'))
  else none
theorem rule_kind {ro : Bool} {s s' : RS} {a : Acc} (h : rule ro s a = some s') : a.kind = 3 ∨ a.kind = 4 ∨ a.kind = 5 ∨ a.kind = 6 ∨ a.kind = 7 ∨ a.kind = 8 ∨ a.kind = 9 := by
  unfold rule at h
  split at h
  · exact .inl ‹_›
  · split at h
    · simp [*]
    · split at h
      · simp [*]
      · split at h
        · simp [*]
        · split at h
          · rename_i h5
            rcases h5 with h5 | h5 | h5 <;> simp [h5]
          · cases h
theorem run_sat {N : Nat} {ro : Bool} {c : Cfg} {o : Opn} {got : List Int} (hg : got.length = N) (hN : N ≤ 1000) (ha : In64 o.a) (hb : In64 o.b) (hr : ¬ (o.kind = 6 ∨ o.kind = 7) → ro = false) :
    (runTr c o got).sat N (ruleR ro) 0 (0, (false, [])) (fun _ s r => s.1 = 2 ∧ s.2.2 = [] ∧ Sm r) := by
  unfold runTr
  refine T.sat_ask (s' := (1, (false, []))) (by simp [ruleR, bare]) (fun h1 x1 hx1 => ?_)
  refine T.sat_bind (T.sat_mono (T.sat_le (T.sat_lift (f := fun s : RS => ((1, s) : Nat × RS)) (st := rule ro) (fun s c s' h => ?_) (program_sat hg hN h1 (s := (false, [])) rfl ⟨rfl, by simp, fun x hx => (by cases hx)⟩ ha hb hr)) h1) ?_)
  · have := rule_kind h
    simp only [ruleR]
    rw [if_neg (by decide), if_pos trivial, if_neg (by omega), h]
    rfl
  · rintro n s ⟨r, held⟩ ⟨h2, h3, s', rfl, hD, hS⟩
    refine T.sat_bind (T.sat_mono (T.sat_lift (f := fun s : RS => ((1, s) : Nat × RS)) (st := rule ro) (fun s c s' h => ?_) (free_sat (Q := fun n' s' _ => n ≤ n' ∧ n' ≤ N ∧ s'.2 = []) hD.1 hD.2.1 h3 (fun n' b h4 h5 => ⟨h4, h5, rfl⟩))) ?_)
    · have := rule_kind h
      simp only [ruleR]
      rw [if_neg (by decide), if_pos trivial, if_neg (by omega), h]
      rfl
    · rintro n4 s4 ⟨⟩ ⟨s5, rfl, h4, h5, h6⟩
      refine T.sat_ask (s' := (2, s5)) ?_ (fun _ _ _ => ⟨rfl, h6, hS⟩)
      simp [ruleR, h6, bare]
/-- What an operation comes to. -/
theorem run_exec {N : Nat} {ro : Bool} {c : Cfg} {o : Opn} {got : List Int} (hg : got.length = N) (hN : N ≤ 1000) (hx : ∀ x ∈ got, In64 x) (ha : In64 o.a) (hb : In64 o.b) (hr : ¬ (o.kind = 6 ∨ o.kind = 7) → ro = false) :
    (∃ r d b, (runTr c o got).exec got [] = .ok r d ∧ ruled (ruleR ro) (0, (false, [])) d = some (2, (b, [])) ∧ d.length ≤ N ∧ Sm r) ∨ (∃ d s, (runTr c o got).exec got [] = .stop d ∧ ruled (ruleR ro) (0, (false, [])) d = some s ∧ d.length = N + 1) := by
  rcases T.sat_exec hg (by omega) hx (d := []) (by simp) (run_sat (c := c) hg hN ha hb hr) with ⟨a, e, ⟨p, b, l⟩, h1, h2, ⟨h3, h4, h6⟩, h5⟩ | ⟨e, s', h1, h2, h3⟩
  · dsimp only at h3 h4
    subst h3 h4
    exact .inl ⟨a, e, b, by simpa using h1, h2, by simpa using h5, h6⟩
  · exact .inr ⟨e, s', by simpa using h1, h2, by simpa using h3⟩
end Go.Ax.Cd
