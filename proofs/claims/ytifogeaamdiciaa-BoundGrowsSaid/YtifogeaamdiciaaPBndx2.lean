-- Printed by wip/tools/myprint.py of this repo, over the kit's printer
import Derived.Test.YtifogeaamdiciaaPBndx0
import Derived.Test.YtifogeaamdiciaaPBndx1
namespace Go.Proofs.Ytifogeaamdiciaa.PBnd
open Go.RowKit Go.Proofs.YtifogeaamdiciaaW.PrintWords Go.Proofs.YtifogeaamdiciaaW.PrintLast Go.Proofs.YtifogeaamdiciaaW.PrintMore
attribute [local go_sem] max2_int min2_int max_two min_two max_three min_three max_four min_four max_five min_five   -- for this text's walks alone
set_option linter.unusedVariables false
set_option linter.unusedSimpArgs false

/-! ### bound_Fair: function 17 (override) -/
-- OVERRIDE tendril/bound.Fair name=bound_Fair rounds=0 making=1 imports=Derived.Test.YtifogeaamdiciaaChunk,Derived.RangeFuncBox
open Go.Shelf Chunk
attribute [local go_sem] Oper.semAt_some
def wholeB (c : List Int) (t : Nat) : Bool := decide (t ≤ c.length) && (List.range t).all (fun (i : Nat) => c.contains (i : Int))
def fairM (l : List Int) (nn : Nat) : Nat := (l.length + nn - 1) / nn
def winL (l : List Int) (nn j : Nat) : List Int := (l.drop (j * nn)).take nn
def fairN (l : List Int) (nn : Nat) : Nat := ((List.range (fairM l nn)).takeWhile (fun j => wholeB (winL l nn j) nn)).length
def bound_Fair.f (l0 : List Int) (a1 : Int) : Option (Int) :=
  if a1 < 1 then some 0 else if a1 ≤ 9223372036854775807 ∧ l0.length ≤ 4611686018427387903 then some (fairN l0 a1.toNat : Int) else none

theorem index_eq (l : List Int) (v : Int) (hl : l.length ≤ 4611686018427387903) : ∀ (d i k : Nat), i + d = l.length → d < k →
    ∃ r : Int, slices_Index_int_int.l0 k l v (l.length : Int) (i : Int) = some r ∧ (decide (r ≥ 0) = (l.drop i).contains v) := by
  intro d
  induction d with
  | zero =>
    intro i k hd hk
    obtain ⟨k, rfl⟩ : ∃ q, k = q + 1 := ⟨k - 1, by omega⟩
    refine ⟨-1, ?_, ?_⟩
    · simp only [slices_Index_int_int.l0]
      rw [if_neg (by omega)]
    · rw [List.drop_of_length_le (by omega)]
      simp
  | succ d ih =>
    intro i k hd hk
    obtain ⟨k, rfl⟩ : ∃ q, k = q + 1 := ⟨k - 1, by omega⟩
    have hi : i < l.length := by omega
    simp only [slices_Index_int_int.l0]
    rw [if_pos (by omega), if_pos (by omega), if_pos (by omega)]
    have hrd : rd l (i : Int) = l[i] := by simp [rd, hi]
    rw [List.drop_eq_getElem_cons hi]
    by_cases e : v = rd l (i : Int)
    · refine ⟨i, by rw [if_pos e], ?_⟩
      rw [hrd] at e
      rw [List.contains_cons]
      simp [e]
    · rw [if_neg e]
      have hw : wrap64 ((i : Int) + 1) = ((i + 1 : Nat) : Int) := by unfold wrap64; omega
      rw [hw]
      obtain ⟨r, hr, hb⟩ := ih (i + 1) k (by omega) (by omega)
      refine ⟨r, hr, ?_⟩
      rw [hb, List.contains_cons]
      rw [hrd] at e
      have : (v == l[i]) = false := by simpa using e
      rw [this, Bool.false_or]
theorem contains_eq (l : List Int) (v : Int) (hl : l.length ≤ 4611686018427387903) (k : Nat) (hk : l.length < k) : slices_Contains_int_int.f k l v = some (l.contains v) := by
  obtain ⟨r, hr, hb⟩ := index_eq l v hl l.length 0 k (by omega) hk
  unfold slices_Contains_int_int.f slices_Index_int_int.f
  rw [show ((0 : Nat) : Int) = 0 from rfl] at hr
  rw [hr]
  simp only [Option.bind_some]
  rw [hb, List.drop_zero]
theorem whole_loop (c : List Int) (t : Nat) (hl : c.length ≤ 4611686018427387903) (ht : t ≤ c.length) : ∀ (d i k : Nat), i + d = t → d + c.length + 1 < k →
    bound_whole.l0 k c (t : Int) (i : Int) = some ((List.range' i d).all (fun (j : Nat) => c.contains (j : Int))) := by
  intro d
  induction d with
  | zero =>
    intro i k hd hk
    obtain ⟨k, rfl⟩ : ∃ q, k = q + 1 := ⟨k - 1, by omega⟩
    simp only [bound_whole.l0]
    rw [if_neg (by omega)]
    simp
  | succ d ih =>
    intro i k hd hk
    obtain ⟨k, rfl⟩ : ∃ q, k = q + 1 := ⟨k - 1, by omega⟩
    simp only [bound_whole.l0]
    rw [if_pos (by omega), contains_eq c _ hl k (by omega)]
    simp only [Option.bind_some]
    rw [List.range'_succ, List.all_cons]
    have hw : wrap64 ((i : Int) + 1) = ((i + 1 : Nat) : Int) := by unfold wrap64; omega
    cases hc : c.contains (i : Int) with
    | true => rw [if_pos rfl, hw, ih (i + 1) k (by omega) (by omega)]; simp
    | false => rw [if_neg (by simp)]; simp
theorem whole_eq (c : List Int) (t : Nat) (hl : c.length ≤ 4611686018427387903) : ∃ k, bound_whole.f k c (t : Int) = some (wholeB c t) := by
  refine ⟨t + c.length + 2, ?_⟩
  unfold bound_whole.f wholeB
  by_cases h : (c.length : Int) < (t : Int)
  · rw [if_pos h]
    have : decide (t ≤ c.length) = false := by simp; omega
    rw [this, Bool.false_and]
  · rw [if_neg h]
    have := whole_loop c t hl (by omega) t 0 (t + c.length + 2) (by omega) (by omega)
    rw [show ((0 : Nat) : Int) = 0 from rfl] at this
    rw [this]
    have h2 : decide (t ≤ c.length) = true := by simp; omega
    rw [h2, Bool.true_and, List.range_eq_range']
theorem fairN_eq (l : List Int) (nn k : Nat) (hk : k ≤ fairM l nn) (hall : ∀ j, j < k → wholeB (winL l nn j) nn = true) (hst : k = fairM l nn ∨ wholeB (winL l nn k) nn = false) : fairN l nn = k := by
  unfold fairN
  obtain ⟨d, hd⟩ : ∃ d, fairM l nn = k + d := ⟨fairM l nn - k, by omega⟩
  have hsplit : List.range (k + d) = List.range k ++ List.range' k d := by
    rw [List.range_eq_range', List.range_eq_range', ← List.range'_append_1]
    simp
  rw [hd, hsplit, List.takeWhile_append_of_pos (by intro j hj; exact hall j (by simpa using hj))]
  rcases hst with h | h
  · obtain rfl : d = 0 := by omega
    simp
  · cases d with
    | zero => simp
    | succ d => rw [List.range'_succ, List.takeWhile_cons_of_neg (by rw [h]; simp)]; simp
theorem win_reads {w : World} {A : Option Addr} {l : List Int} (h : Kd.C (Kd.int .i64) w A l.length l) (nn j : Nat) :
    Kd.C (Kd.int .i64) w (A.map (fun x => x.add (j * nn))) (winL l nn j).length (winL l nn j) := by
  by_cases hj : j * nn ≤ l.length
  case neg =>
    have e : winL l nn j = [] := by unfold winL; rw [List.drop_of_length_le (by omega)]; simp
    rw [e]
    exact ⟨rfl, by simp, fun h => by simp at h⟩
  have h1 := Kd.reads_of_C (enc := Value.int .i64) (d := (0 : Int)) (h1 := fun _ => rfl) h
  have h2 := h1.drop_ (c := l.length + 1) (j * nn) hj (by omega)
  by_cases hc : l.length + 1 = j * nn
  · omega
  · rw [if_neg hc] at h2
    have hlen : (winL l nn j).length = min nn (l.length - j * nn) := by simp [winL]
    have h3 := h2.take_ (winL l nn j).length (by rw [hlen]; omega)
    have h4 : (l.drop (j * nn)).take (winL l nn j).length = winL l nn j := by
      rw [hlen]; unfold winL
      rcases Nat.le_total nn (l.length - j * nn) with h | h
      · rw [Nat.min_eq_left h]
      · rw [Nat.min_eq_right h, List.take_of_length_le (by simp), List.take_of_length_le (by rw [List.length_drop]; exact h)]
    rw [h4] at h3
    exact Kd.C_of_reads (h1 := fun _ => rfl) h3

theorem fairM_lo (L nn k : Nat) (hnn : 1 ≤ nn) (hk : k < (L + nn - 1) / nn) : k * nn < L := by
  have h1 : (k + 1) * nn ≤ L + nn - 1 := Nat.le_trans (Nat.mul_le_mul_right nn hk) (Nat.div_mul_le_self _ _)
  rw [Nat.succ_mul] at h1
  omega
theorem fairM_hi (L nn : Nat) (hnn : 1 ≤ nn) : L ≤ (L + nn - 1) / nn * nn := by
  have h1 := Nat.lt_succ_self ((L + nn - 1) / nn)
  rw [Nat.div_lt_iff_lt_mul hnn] at h1
  rw [Nat.succ_mul] at h1
  omega
theorem fair_lo (l : List Int) (nn : Nat) (hnn : 1 ≤ nn) (hl : l.length ≤ 4611686018427387903) (hb : nn ≤ 9223372036854775807) (k : Nat) (hk : k < fairM l nn) :
    k * nn < l.length ∧ k * nn + nn ≤ 9223372036854775807 ∧ ((k * nn + nn ≤ l.length ∧ (winL l nn k).length = nn) ∨ (l.length < k * nn + nn ∧ k * nn + (winL l nn k).length = l.length)) := by
  have h1 : k * nn < l.length := fairM_lo l.length nn k hnn hk
  have h2 : (winL l nn k).length = min nn (l.length - k * nn) := by simp [winL]
  refine ⟨h1, ?_, ?_⟩
  · cases k with
    | zero => omega
    | succ k =>
      have : nn ≤ (k + 1) * nn := Nat.le_mul_of_pos_left nn (by omega)
      omega
  · rw [h2]
    rcases Nat.le_total nn (l.length - k * nn) with h | h
    · left; rw [Nat.min_eq_left h]; exact ⟨by omega, rfl⟩
    · by_cases e : k * nn + nn = l.length
      · left; exact ⟨by omega, by omega⟩
      · right; rw [Nat.min_eq_right h]; exact ⟨by omega, by omega⟩
def winV (A : Option Addr) (l : List Int) (nn j : Nat) : Value := .slice (A.map (fun x => x.add (j * nn))) (winL l nn j).length (winL l nn j).length
theorem win_cut (A : Option Addr) (l : List Int) (c nn : Nat) (hnn : 1 ≤ nn) (hl : l.length ≤ 4611686018427387903) (hb : nn ≤ 9223372036854775807) (hc : l.length ≤ c) (k : Nat) (hk : k < fairM l nn) (W : World) :
    (Instr.slice 22 (.slice A l.length c) (some (.int .i64 ((k * nn : Nat) : Int))) (some (.int .i64 (((k * nn : Nat) : Int) + ((winL l nn k).length : Int)))) (some (.int .i64 (((k * nn : Nat) : Int) + ((winL l nn k).length : Int))))).run Try.prog W = .ok (winV A l nn k) W := by
  obtain ⟨h1, _, h3⟩ := fair_lo l nn hnn hl hb k hk
  have h4 : 0 < (winL l nn k).length := by omega
  have h5 : k * nn + (winL l nn k).length ≤ l.length := by omega
  obtain ⟨i0, hi0, _, hsz, _⟩ := info_parts info3
  have hel : Try.prog.elem 22 = 3 := by simp [Program.elem, Try.underlying22]
  have hu : Try.prog.underlying 22 = some (.slice (Try.prog.elem 22)) := by rw [hel]; exact Try.underlying22
  rw [run_slice_lhm W 22 A l.length c hu .i64 .i64 .i64 _ _ _ (by omega) (by omega) (by omega) (by omega), hel]
  obtain ⟨e, he⟩ : ∃ e, (winL l nn k).length = e := ⟨_, rfl⟩
  unfold winV
  rw [he] at h4 h5 ⊢
  have e1 : ((k * nn : Nat) : Int).toNat = k * nn := by omega
  have e2 : (((k * nn : Nat) : Int) + (e : Int)).toNat = k * nn + e := by omega
  rw [e1, e2]
  simp [sizeOf, typeInfo, hi0, hsz, sliced, Result.andThen]
  omega

set_option maxRecDepth 100000 in
set_option maxHeartbeats 4000000 in
theorem fair_calls (A0 : Option Addr) (c0 : Nat) (l0 : List Int) (nn : Nat) (w : World) (hr0 : Kd.C (Kd.int .i64) w A0 l0.length l0) (hc0 : l0.length ≤ c0) (hnn : 1 ≤ nn) (hb : nn ≤ 9223372036854775807) (hl : l0.length ≤ 4611686018427387903) :
    Calls Try.prog 17 #[.slice A0 l0.length c0, .int .i64 nn] w fun e w' => e = .returned (.int .i64 (fairN l0 nn)) ∧ Below w.heap.size w w' := by
  refine (callsIn_wide (n := 6)).1 ?_
  refine callsIn_of_wp_marks Try.func17 rfl trivial ?_ rfl
  simp only [Try.ntmps17, List.size_toArray, List.length_cons, List.length_nil, Nat.reduceAdd, Nat.reduceSub, Array.replicate_succ, Array.replicate_zero, List.push_toArray, List.append_toArray, List.nil_append, List.cons_append]
  have HR0 := Aside0.mk hr0
  clear hr0
  have h1' : decide ((nn : Int) < 1) = false := by simp; omega
  gi_wp2_with (refine ⟨trivial, ?_⟩; gi_at_call 54; refine (Chunk.chunk_in Fence.wide _ trivial rfl A0 l0.length c0 nn (by omega) _).mono ?_; rintro e w' ⟨rfl, rfl⟩)
  obtain ⟨W0, hW0⟩ : ∃ W0, ((((w.alloc (.cells #[.int .i64 nn] 3)).alloc (.cells #[.int .i64 0] 3)).alloc (.cells #[.slice A0 l0.length c0] 22)).alloc (.cells #[.int .i64 nn] 3)) = W0 := ⟨_, rfl⟩
  have hsz : W0.heap.size = w.heap.size + 4 := by rw [← hW0]; simp
  have hbel : Below w.heap.size w W0 := by rw [← hW0]; exact ((((Below.refl _ w).alloc (Nat.le_refl _) _).alloc (by simp) _).alloc (by simp; omega) _).alloc (by simp; omega) _
  have hc0' : W0.cell? ⟨w.heap.size, 0, none⟩ = some (.int .i64 nn) := by rw [← hW0]; simp [go_sem]
  have hc1' : W0.cell? ⟨w.heap.size + 1, 0, none⟩ = some (.int .i64 0) := by rw [← hW0]; simp [go_sem]
  have hc2' : W0.cell? ⟨w.heap.size + 1 + 1, 0, none⟩ = some (.slice A0 l0.length c0) := by rw [← hW0]; simp [go_sem]
  have hc3' : W0.cell? ⟨w.heap.size + 1 + 1 + 1, 0, none⟩ = some (.int .i64 nn) := by rw [← hW0]; simp [go_sem]
  have hf1' : W0.frozen? ⟨w.heap.size + 1, 0, none⟩ = false := by rw [← hW0]; simp [go_sem]
  rw [hW0]
  have HR1 := Aside0.mk (Kd.C_below HR0.out hbel)
  have hwn : ∀ j : Nat, (winL l0 nn j).length ≤ 4611686018427387903 := fun j => by have : (winL l0 nn j).length ≤ l0.length := by simp [winL]; omega
                                                                                   omega
  have HWN := Aside0.mk hwn
  clear hwn
  refine wpIn_rangeFunc_ownF rfl (by omega) (gf := 71) (lb := #[.pointer (some ⟨w.heap.size + 1 + 1, 0, none⟩), .pointer (some ⟨w.heap.size + 1 + 1 + 1, 0, none⟩)]) rfl trivial (enters_of Try.func71 (by kernel_rfl) rfl)
    (Chunk.chunk_stops (6 - 1) (by omega) (w.heap.size + 1 + 1) (w.heap.size + 1 + 1 + 1) A0 l0.length c0 nn (fairM l0 nn) (fun j => (winL l0 nn j).length) (winV A0 l0 nn) hc0 hnn (fair_lo l0 nn hnn hl hb) (fairM_hi l0.length nn hnn) (fun k hk => win_cut A0 l0 c0 nn hnn hl hb hc0 k hk) W0 (by omega) (by omega) hc2' hc3')
    (fun h k => Chunk.keepsTwo_t h k) (Chunk.keepsTwo_b (w := W0) (by omega) (by omega)) (Below.refl _ _) (fun _ => rfl)
    (fun pre W => ((W.cell? ⟨w.heap.size, 0, none⟩ = some (.int .i64 nn) ∧ W.cell? ⟨w.heap.size + 1, 0, none⟩ = some (.int .i64 (pre.length : Nat)) ∧ W.frozen? ⟨w.heap.size + 1, 0, none⟩ = false) ∧ (∀ j ∈ pre, wholeB (winL l0 nn j) nn = true)) ∧ Below w.heap.size w W)
    (fun c pre W => ((W.cell? ⟨w.heap.size + 1, 0, none⟩ = some (.int .i64 ((pre.length - 1 : Nat) : Int))) ∧ (c = .exit 0 ∧ ∃ pre' x, pre = pre' ++ [x] ∧ (∀ j ∈ pre', wholeB (winL l0 nn j) nn = true) ∧ wholeB (winL l0 nn x) nn = false)) ∧ Below w.heap.size w W)
    (OwnFrom.and (OwnFrom.and (Own.from (I := fun (pre : List Nat) (W : World) => W.cell? ⟨w.heap.size, 0, none⟩ = some (.int .i64 nn) ∧ W.cell? ⟨w.heap.size + 1, 0, none⟩ = some (.int .i64 (pre.length : Nat)) ∧ W.frozen? ⟨w.heap.size + 1, 0, none⟩ = false) (fun s A B row hs hg hr => ⟨cell_kept hs.1 hg hr, cell_kept hs.2.1 hg hr, (frozen_kept hs.2.1 hg hr).trans hs.2.2⟩) _) (ownFrom_pure _ _)) (ownFrom_below (Nat.le_refl _) (by omega)))
    (fun c => OwnFrom.and (OwnFrom.and (Own.from (I := fun (pre : List Nat) (W : World) => W.cell? ⟨w.heap.size + 1, 0, none⟩ = some (.int .i64 ((pre.length - 1 : Nat) : Int))) (fun s A B row hs hg hr => cell_kept hs hg hr) _) (ownFrom_pure _ _)) (ownFrom_below (Nat.le_refl _) (by omega)))
    ⟨⟨⟨hc0', hc1', hf1'⟩, fun j hj => by simp at hj⟩, hbel⟩
    (fun x => { tmps := #[.slice A0 l0.length c0, .int .i64 nn, undef, .pointer (some ⟨w.heap.size, 0, none⟩), .int .i64 0, .pointer (some ⟨w.heap.size + 1, 0, none⟩), winV A0 l0 nn x, .int .i64 nn, .bool false, .slice A0 l0.length c0, .int .i64 nn, .func (.func 71) #[] #[.pointer (some ⟨w.heap.size + 1 + 1, 0, none⟩), .pointer (some ⟨w.heap.size + 1 + 1 + 1, 0, none⟩)], winV A0 l0 nn x, undef, undef, undef, undef, undef, undef, undef], defers := [] }) ?assign ?body ?done ?stop
  case assign =>
    intro l x W K hK
    gi_wp2
    exact hK
  case body =>
    rintro l pre x W ⟨⟨⟨h0, h1, hf⟩, hall⟩, hB⟩ hlen
    have HRW := win_reads (Kd.C_below HR0.out hB) nn x
    obtain ⟨kk, hkk⟩ := whole_eq (winL l0 nn x) nn (HWN.out x)
    have hcall := bound_whole.calls kk (A0.map (fun y => y.add (x * nn))) (winL l0 nn x).length (winL l0 nn x) nn (wholeB (winL l0 nn x) nn) W HRW (Nat.le_refl _) hkk
    obtain ⟨bb, hbb⟩ : ∃ bb, wholeB (winL l0 nn x) nn = bb := ⟨_, rfl⟩
    rw [hbb] at hcall
    have HBB := Aside0.mk hbb
    have HALL := Aside0.mk hall
    clear hbb hall hkk
    have hpl : (pre.length : Int) + 1 ≤ 9223372036854775807 := by
      have : fairM l0 nn ≤ l0.length + nn - 1 := Nat.div_le_self _ _
      have h2 : fairM l0 nn ≤ l0.length := by
        rcases Nat.eq_zero_or_pos (fairM l0 nn) with e | e
        · omega
        · have h3 := (fair_lo l0 nn hnn hl hb (fairM l0 nn - 1) (by omega)).1
          have h4 : fairM l0 nn - 1 ≤ (fairM l0 nn - 1) * nn := Nat.le_mul_of_pos_right _ (by omega)
          omega
      omega
    unfold winV
    have HC := Aside0.mk hcall
    clear hcall HRW hlen hW0 hsz hbel hc0' hc1' hc2' hc3' hf1'
    gi_wp2_with (fail)
    refine ⟨trivial, ?_⟩
    refine (CallsIn.inRound l (callsIn_wide.2 HC.out)).mono ?_
    rintro e w' ⟨rfl, ⟨q, rfl⟩⟩
    have kq : KeepsOthers W (W.drewN q) := ⟨Nat.le_refl _, fun _ _ h _ => h⟩
    have hBq : Below w.heap.size w (W.drewN q) := ⟨hB.os, hB.tape, hB.output, hB.size, hB.block⟩
    cases bb with
    | true =>
      gi_wp2
      refine ⟨kq.trans (KeepsOthers.setCell _ _ _), ⟨?_, ?_⟩, ⟨⟨?_, ?_, ?_⟩, ?_⟩, ?_⟩
      · simp [go_sem]
      · simp [go_sem]
      · simp [go_sem, h0]
      · simp [go_sem, h1]
      · simp [go_sem, hf]
      · intro j hj
        rcases List.mem_append.1 hj with h | h
        · exact HALL.out j h
        · rw [List.mem_singleton] at h
          rw [h]
          exact HBB.out
      · exact hBq.setCell (by simp) _
    | false =>
      gi_wp2
      refine ⟨kq, ⟨?_, rfl, pre, x, rfl, HALL.out, HBB.out⟩, hBq⟩
      simp [go_sem, h1]
  case done =>
    rintro D xs W hD rfl ⟨⟨⟨h0, h1, hf⟩, hall⟩, hB⟩ hK
    have hfin : fairN l0 nn = fairM l0 nn := fairN_eq l0 nn _ (Nat.le_refl _) (fun j hj => hall j (by simpa using hj)) (.inl rfl)
    rw [List.length_range, ← hfin] at h1
    clear hfin hall
    gi_wp2
    refine ⟨by simp, .inl ⟨_, _, rfl, run_takeDeferred hK, ?_⟩⟩
    exact ⟨_, results_tmp rfl _ _ _, rfl, hB.trans (belowK_b (w := w) (Nat.le_refl _) W D _ _ (by omega) hK rfl rfl)⟩
  case stop =>
    rintro D c pre W hD ⟨k, hk, hpre⟩ ⟨⟨h1, rfl, pre', x, hpx, hall, hx⟩, hB⟩ hK
    obtain ⟨k, rfl⟩ : ∃ q, k = q + 1 := by
      cases k with
      | zero => rw [hpx] at hpre; simp at hpre
      | succ k => exact ⟨k, rfl⟩
    rw [hpx, List.range_succ] at hpre
    obtain ⟨e1, e2⟩ := List.append_inj' hpre rfl
    obtain rfl : x = k := by simpa using e2
    have hfin : fairN l0 nn = pre.length - 1 := by
      rw [hpx, e1]
      simp only [List.length_append, List.length_range, List.length_singleton, Nat.add_sub_cancel]
      exact fairN_eq l0 nn _ (by omega) (fun j hj => hall j (by rw [e1]; simpa using hj)) (.inr hx)
    clear e1 e2 hpre hx
    rw [← hfin] at h1
    clear hfin hall
    gi_wp2
    refine ⟨by simp, .inl ⟨_, _, rfl, run_takeDeferred hK, ?_⟩⟩
    exact ⟨_, results_tmp rfl _ _ _, rfl, hB.trans (belowK_b (w := w) (Nat.le_refl _) W D _ _ (by omega) hK rfl rfl)⟩

set_option maxRecDepth 100000 in
set_option maxHeartbeats 4000000 in
theorem fair_none (A0 : Option Addr) (c0 n0 : Nat) (a1 : Int) (w : World) (h1 : a1 < 1) :
    Calls Try.prog 17 #[.slice A0 n0 c0, .int .i64 a1] w fun e w' => e = .returned (.int .i64 0) ∧ Below w.heap.size w w' := by
  refine (callsIn_wide (n := 6)).1 ?_
  refine callsIn_of_wp_marks Try.func17 rfl trivial ?_ rfl
  simp only [Try.ntmps17, List.size_toArray, List.length_cons, List.length_nil, Nat.reduceAdd, Nat.reduceSub, Array.replicate_succ, Array.replicate_zero, List.push_toArray, List.append_toArray, List.nil_append, List.cons_append]
  have h1' : decide (a1 < 1) = true := by simp; omega
  gi_wp2
  exact ⟨_, results_tmp rfl _ _ _, rfl, (Below.refl _ w).alloc (Nat.le_refl _) _⟩
theorem bound_Fair.calls (A0 : Option Addr) (c0 : Nat) (l0 : List Int) (a1 : Int) (r : Int) (w : World) (hr0 : Kd.C (Kd.int .i64) w A0 l0.length l0) (hc0 : l0.length ≤ c0) (h : bound_Fair.f l0 a1 = some r) :
    Calls Try.prog 17 #[.slice A0 l0.length c0, .int .i64 a1] w fun e w' => e = .returned (.int .i64 r) ∧ Below w.heap.size w w' := by
  unfold bound_Fair.f at h
  by_cases h1 : a1 < 1
  · rw [if_pos h1] at h
    obtain rfl := Option.some.inj h
    exact fair_none A0 c0 l0.length a1 w h1
  · rw [if_neg h1] at h
    by_cases h2 : a1 ≤ 9223372036854775807 ∧ l0.length ≤ 4611686018427387903
    · rw [if_pos h2] at h
      obtain rfl := Option.some.inj h
      obtain ⟨nn, rfl⟩ := Int.eq_ofNat_of_zero_le (show 0 ≤ a1 by omega)
      rw [Int.toNat_natCast]
      exact fair_calls A0 c0 l0 nn w hr0 hc0 (by omega) (by omega) h2.2
    · rw [if_neg h2] at h
      cases h

end Go.Proofs.Ytifogeaamdiciaa.PBnd
