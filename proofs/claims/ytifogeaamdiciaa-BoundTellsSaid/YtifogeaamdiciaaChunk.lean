-- LIB Chunk needs=slices.Chunk[[]int,int]
import Derived.RangeFuncNested
import Derived.RangeFuncBound
import Derived.RangeFuncCalls
import Derived.RangeFuncLeaves
import Derived.Shelf.Abstract
import Derived.Shelf.RegionOpen
import Derived.WalkKit
import Derived.OwnWalkIn
import Derived.TacticsInMore
import Derived.LoopNIn
import Derived.LoopIn
import Derived.Sort.QuietIn
import Derived.Test.YtifogeaamdiciaaProg
import Derived.Test.YtifogeaamdiciaaMy
import Derived.KernelRfl
namespace Go.Proofs.Ytifogeaamdiciaa.Chunk
open Go.RowKit Go.Shelf Go.Proofs.YtifogeaamdiciaaW.PrintWords Go.Proofs.YtifogeaamdiciaaW.PrintMore
attribute [local go_sem] Oper.semAt_some
attribute [local go_sem] max2_int min2_int max_two min_two

set_option maxRecDepth 100000 in
set_option maxHeartbeats 2000000 in
theorem chunk_in (F : Fence) (n : Nat) (h5 : F.fn 54) (hro : F.round = none) (A : Option Addr) (L c : Nat) (nn : Int) (h1 : 1 ≤ nn) (w : World) :
    CallsIn F n Try.prog 54 #[.slice A L c, .int .i64 nn] w fun e w' => e = .returned (.func (.func 71) #[] #[.pointer (some ⟨w.heap.size, 0, none⟩), .pointer (some ⟨w.heap.size + 1, 0, none⟩)]) ∧ w' = (w.alloc (.cells #[.slice A L c] 22)).alloc (.cells #[.int .i64 nn] 3) := by
  refine callsIn_of_wp Try.func54 rfl h5 ?_ hro
  simp only [Try.ntmps54, List.size_toArray, List.length_cons, List.length_nil, Nat.reduceAdd, Nat.reduceSub, Array.replicate_succ, Array.replicate_zero, List.push_toArray, List.append_toArray, List.nil_append, List.cons_append]
  have h1' : decide (nn < 1) = false := by simp; omega
  gi_wp2
  go_ret
  exact ⟨rfl, rfl⟩


set_option maxRecDepth 100000 in
set_option maxHeartbeats 4000000 in
theorem chunk1_in (n : Nat) (hn : 1 ≤ n) (l Bs Bk : Nat) (A : Option Addr) (L c nn m : Nat) (ev : Nat → Nat) (cv : Nat → Value)
    (hLc : L ≤ c) (hnn : 1 ≤ nn)
    (hlo : ∀ k, k < m → k * nn < L ∧ k * nn + nn ≤ 9223372036854775807 ∧ ((k * nn + nn ≤ L ∧ ev k = nn) ∨ (L < k * nn + nn ∧ k * nn + ev k = L))) (hhi : L ≤ m * nn)
    (hcut : ∀ k, k < m → ∀ W : World, (Instr.slice 22 (.slice A L c) (some (.int .i64 ((k * nn : Nat) : Int))) (some (.int .i64 (((k * nn : Nat) : Int) + (ev k : Int)))) (some (.int .i64 (((k * nn : Nat) : Int) + (ev k : Int))))).run Try.prog W = .ok (cv k) W)
    (J Jx : List Nat → World → Prop)
    (hJ : ∀ s W q, J s W → J s (W.drewN q))
    (hY : ∀ pre x W, J pre W → pre.length < m → YieldAt Fence.wide (n - 1) Try.prog l #[cv x] W fun e W' =>
      (e = .returned (.bool true) ∧ J (pre ++ [x]) W' ∧ W'.cell? ⟨Bs, 0, none⟩ = some (.slice A L c) ∧ W'.cell? ⟨Bk, 0, none⟩ = some (.int .i64 nn)) ∨ (e = .returned (.bool false) ∧ Jx (pre ++ [x]) W'))
    (W : World) (hBs : W.cell? ⟨Bs, 0, none⟩ = some (.slice A L c)) (hBk : W.cell? ⟨Bk, 0, none⟩ = some (.int .i64 nn)) (h0 : J [] W) :
    CallsIn Fence.wide n Try.prog 71 #[.func (.yield l) #[] #[], .pointer (some ⟨Bs, 0, none⟩), .pointer (some ⟨Bk, 0, none⟩)] W fun e W' => (∃ v, e = .returned v) ∧
      ((∃ ys, ys = List.range m ∧ J ys W') ∨ (∃ pre, (∃ k, k ≤ m ∧ pre = List.range k) ∧ Jx pre W')) := by
  refine callsIn_of_wp Try.func71 rfl trivial ?_ rfl
  simp only [Try.ntmps71, List.size_toArray, List.length_cons, List.length_nil, Nat.reduceAdd, Nat.reduceSub, Array.replicate_succ, Array.replicate_zero, List.push_toArray, List.append_toArray, List.nil_append, List.cons_append]
  have HHI := Aside0.mk hhi
  clear hhi
  have HLO := Aside0.mk hlo
  clear hlo
  have HCUT := Aside0.mk hcut
  clear hcut
  gi_wp2
  gi_loopw [4] (fun i wr => ∃ k i' : Nat, k ≤ m ∧ Aside0 (i' = k * nn) ∧ i = .int .i64 i' ∧ J (List.range k) wr ∧ wr.cell? ⟨Bs, 0, none⟩ = some (.slice A L c) ∧ wr.cell? ⟨Bk, 0, none⟩ = some (.int .i64 nn))
    (fun i _ => L - (intOf i).toNat)
  case atStart => exact ⟨0, 0, Nat.zero_le _, Aside0.mk (by omega), rfl, h0, hBs, hBk⟩
  case round =>
    obtain ⟨k, i', hk, HI, rfl, hJs, hs, hkk⟩ := hrel
    by_cases hkm : k < m
    · obtain ⟨q1, q2, q3⟩ := HLO.out k hkm
      have hcv := HCUT.out k hkm
      rw [← HI.out] at q1 q2 q3 hcv
      generalize hee : ev k = ee at q3 hcv
      clear hee
      have fin : ∀ (W3 : World) (i2 : Nat), J (List.range k ++ [k]) W3 → i2 = i' + nn → Aside0 (i2 = (k + 1) * nn) ∧ J (List.range (k + 1)) W3 := by
        intro W3 i2 hj e
        refine ⟨⟨?_⟩, by rw [List.range_succ]; exact hj⟩
        rw [e, HI.out, Nat.succ_mul]
      rcases q3 with ⟨q3, q4⟩ | ⟨q3, q4⟩
      · obtain rfl : ee = nn := q4
        have q5 : ¬ ((L : Int) - (i' : Int) < (ee : Int)) := by omega
        gi_wp2
        gi_quiet (fail)
        obtain ⟨fn, tmps, assign, body, hy, hR⟩ := hY _ k (wr.drewN nq) (hJ _ _ _ hJs) (by rw [List.length_range]; exact hkm)
        gi_wp2
        refine hR.mono ?_
        rintro e W3 (⟨rfl, hJ3, hs3, hk3⟩ | ⟨rfl, hJx3⟩)
        · gi_wp2
          go_roundw
          case rel => exact ⟨k + 1, i' + ee, hkm, (fin _ _ hJ3 rfl).1, by simp, (fin _ _ hJ3 rfl).2, hs3, hk3⟩
          case measure => simp [intOf]; omega
        · gi_wp2
          refine bodyPost_ret (results_none rfl _ _ _) rfl ?_
          exact ⟨⟨_, rfl⟩, .inr ⟨_, ⟨k + 1, hkm, (List.range_succ).symm⟩, hJx3⟩⟩
      · have q6 : (L : Int) - (i' : Int) = (ee : Int) := by omega
        have q5 : (L : Int) - (i' : Int) < (nn : Int) := by omega
        have q7 : L - i' = ee := by omega
        gi_wp2
        gi_quiet (fail)
        obtain ⟨fn, tmps, assign, body, hy, hR⟩ := hY _ k (wr.drewN nq) (hJ _ _ _ hJs) (by rw [List.length_range]; exact hkm)
        gi_wp2
        refine hR.mono ?_
        rintro e W3 (⟨rfl, hJ3, hs3, hk3⟩ | ⟨rfl, hJx3⟩)
        · gi_wp2
          go_roundw
          case rel => exact ⟨k + 1, i' + nn, hkm, (fin _ _ hJ3 rfl).1, by simp, (fin _ _ hJ3 rfl).2, hs3, hk3⟩
          case measure => simp [intOf]; omega
        · gi_wp2
          refine bodyPost_ret (results_none rfl _ _ _) rfl ?_
          exact ⟨⟨_, rfl⟩, .inr ⟨_, ⟨k + 1, hkm, (List.range_succ).symm⟩, hJx3⟩⟩
    · obtain rfl : k = m := by omega
      have q1 : L ≤ i' := by rw [HI.out]; exact HHI.out
      gi_wp2
      go_end0
      exact ⟨⟨_, rfl⟩, .inl ⟨_, rfl, hJs⟩⟩


def KeepsTwo (Bs Bk : Nat) (W W' : World) : Prop := W'.cell? ⟨Bs, 0, none⟩ = W.cell? ⟨Bs, 0, none⟩ ∧ W'.cell? ⟨Bk, 0, none⟩ = W.cell? ⟨Bk, 0, none⟩
theorem keepsTwo_t {Bs Bk : Nat} {A B C : World} (h : KeepsTwo Bs Bk A B) (k : KeepsTwo Bs Bk B C) : KeepsTwo Bs Bk A C := ⟨k.1.trans h.1, k.2.trans h.2⟩
theorem cell_putObj_other {W : World} {l b : Nat} {o : Obj} (h : b ≠ l) : (W.putObj l o).cell? ⟨b, 0, none⟩ = W.cell? ⟨b, 0, none⟩ := by
  simp [World.cell?, World.putObj_heap_other h]
theorem keepsTwo_b {Bs Bk : Nat} {w : World} (h1 : Bs < w.heap.size) (h2 : Bk < w.heap.size) (W : World) (l : Nat) (o o' : Obj) (hl : w.heap.size ≤ l) (_ : W.heap[l]? = some o) (_ : o.isCells = false) (_ : o.isWalk = false) : KeepsTwo Bs Bk W (W.putObj l o') :=
  ⟨cell_putObj_other (by omega), cell_putObj_other (by omega)⟩

theorem chunk_stops (n : Nat) (hn : 1 ≤ n) (Bs Bk : Nat) (A : Option Addr) (L c nn m : Nat) (ev : Nat → Nat) (cv : Nat → Value)
    (hLc : L ≤ c) (hnn : 1 ≤ nn)
    (hlo : ∀ k, k < m → k * nn < L ∧ k * nn + nn ≤ 9223372036854775807 ∧ ((k * nn + nn ≤ L ∧ ev k = nn) ∨ (L < k * nn + nn ∧ k * nn + ev k = L))) (hhi : L ≤ m * nn)
    (hcut : ∀ k, k < m → ∀ W : World, (Instr.slice 22 (.slice A L c) (some (.int .i64 ((k * nn : Nat) : Int))) (some (.int .i64 (((k * nn : Nat) : Int) + (ev k : Int)))) (some (.int .i64 (((k * nn : Nat) : Int) + (ev k : Int))))).run Try.prog W = .ok (cv k) W)
    (w : World) (h1 : Bs < w.heap.size) (h2 : Bk < w.heap.size) (hBs : w.cell? ⟨Bs, 0, none⟩ = some (.slice A L c)) (hBk : w.cell? ⟨Bk, 0, none⟩ = some (.int .i64 nn)) :
    SeqStopsK Fence.wide n Try.prog 71 #[.pointer (some ⟨Bs, 0, none⟩), .pointer (some ⟨Bk, 0, none⟩)] (fun x : Nat => #[cv x]) (KeepsTwo Bs Bk) (fun ys => ys = List.range m) (fun pre => ∃ k, k ≤ m ∧ pre = List.range k) m w := fun l J Jx W hW hA _ hY h0 => by
  refine chunk1_in n hn l Bs Bk A L c nn m ev cv hLc hnn hlo hhi hcut (fun pre W => J pre W ∧ W.cell? ⟨Bs, 0, none⟩ = some (.slice A L c) ∧ W.cell? ⟨Bk, 0, none⟩ = some (.int .i64 nn)) Jx
    (fun s W q h => ⟨?_, by simpa using h.2.1, by simpa using h.2.2⟩) (fun pre x W1 hj hl => ?_) W ((hW.cell (p := ⟨Bs, 0, none⟩) h1).trans hBs) ((hW.cell (p := ⟨Bk, 0, none⟩) h2).trans hBk) ⟨h0, (hW.cell (p := ⟨Bs, 0, none⟩) h1).trans hBs, (hW.cell (p := ⟨Bk, 0, none⟩) h2).trans hBk⟩ |>.mono ?_
  · exact hA s W _ none h.1 ⟨rfl, rfl, rfl, Nat.le_refl _, fun _ _ _ => rfl⟩ (fun r e => by cases e)
  · obtain ⟨fn, tmps, assign, body, hy, hR⟩ := hY pre x W1 hj.1 hl
    refine ⟨fn, tmps, assign, body, hy, hR.mono ?_⟩
    rintro e W' (⟨he, hj', hk⟩ | h)
    · exact .inl ⟨he, ⟨hj', hk.1.trans hj.2.1, hk.2.trans hj.2.2⟩, hk.1.trans hj.2.1, hk.2.trans hj.2.2⟩
    · exact .inr h
  · rintro e W' ⟨he, ⟨ys, hy, hj⟩ | h⟩
    · exact ⟨he, .inl ⟨ys, hy, hj.1⟩⟩
    · exact ⟨he, .inr h⟩

end Go.Proofs.Ytifogeaamdiciaa.Chunk
