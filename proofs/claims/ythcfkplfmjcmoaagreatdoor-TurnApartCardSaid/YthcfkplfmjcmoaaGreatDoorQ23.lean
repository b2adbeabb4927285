/- Merged. -/
import Derived.Test.YthcfkplfmjcmoaaGreatDoorQ22
import Derived.Test.YthcfkplfmjcmoaaGreatDoorQ15
import Derived.Deep.LoopGhost
namespace Go.Ax.Cd
open Go.RowKit Go.Maps Go.Proofs Go.Proofs.YthcfkplfmjcmoaaGreatDoor
structure Aside0 (p : Prop) : Prop where mk :: (out : p)
theorem oM {w W : World} (h : Below w.heap.size w W) : w.heap.size ≤ W.heap.size := h.size
theorem aCo {w W w2 : World} (h : Below w.heap.size w W) (k : Below W.heap.size W w2) : Below w.heap.size w w2 := h.trans (k.mono h.size)
def RI (w : World) (A : Option Addr) (l : List Int) : Prop := ∀ i (h : i < l.length), ∃ ad, A = some ad ∧ w.cell? (ad.add i) = some (.int .i64 l[i])
theorem RI.below {w w' : World} {A : Option Addr} {l : List Int} (h : RI w A l) (hb : Below w.heap.size w w') : RI w' A l := fun i hi => by
 obtain ⟨ad, h1, h2⟩ := h i hi
 exact ⟨ad, h1, (hb.cell (World.block_lt_of_cell? w _ h2)).trans h2⟩
set_option maxHeartbeats 8000000 in
set_option maxRecDepth 100000 in
theorem wH (A0 : Option Addr) (c0 : Nat) (l0 : List Int) (w : World) (hr0 : RI w A0 l0) (hc0 : l0.length ≤ c0) (hl : l0.length ≤ 4611686018427387903) (hwf : ∀ x ∈ l0, (Lit.int .i64 x).wf = true) :
  Calls Tryz.prog 289 #[.slice A0 l0.length c0] w fun e w' => e = .returned (.map (some w.heap.size)) ∧ IMap.BMap Tryz.prog 3 4 w' w.heap.size l0.length (fun x => l0.contains x) ∧ Below w.heap.size w w' := by
 have HR0 := Aside0.mk hr0
 have HC0 := Aside0.mk hc0
 have HWF := Aside0.mk hwf
 clear hr0 hc0 hwf
 have hmm := @run_makeMap Tryz.prog
 have HM0 := Aside0.mk (IMap.BMap.made w Tryz.prog 3 4)
 have HB0 := Aside0.mk ((Below.refl w.heap.size w).alloc (Nat.le_refl _) (.map #[] 0))
 go_enter Tryz.func289, Tryz.ntmps289
 go_wp2
 go_loopg [9] l0.length (fun kq v9 w' => ∃ n : Nat, n ≤ l0.length ∧ Aside0 (n + kq = l0.length) ∧ v9 = .int .i64 n ∧ Aside0 (IMap.BMap Tryz.prog 3 4 w' w.heap.size n (fun x => (l0.take n).contains x)) ∧ Aside0 (Below w.heap.size w w'))
 case atStart => exact ⟨0, Nat.zero_le _, ⟨by omega⟩, rfl, ⟨by simpa using HM0.out⟩, HB0⟩
 case round =>
  clear hmm
  obtain ⟨n, hn, HK, rfl, HM, HB⟩ := hrel
  by_cases hlt : n < l0.length
  ·obtain ⟨ad, ead, x0⟩ := HR0.out n hlt
   cases ead
   replace x0 := (HB.out.cell (World.block_lt_of_cell? w _ x0)).trans x0
   have hwx := HWF.out l0[n] (List.getElem_mem hlt)
   have htk := List.take_succ_eq_append_getElem hlt
   generalize l0[n] = x at x0 hwx htk
   have HTK := Aside0.mk htk
   have HWX := Aside0.mk hwx
   clear hwx htk
   have hd := HK.out
   obtain ⟨kk, rfl⟩ : ∃ q, gk = q + 1 := ⟨gk - 1, by omega⟩
   go_wp2_with (at_mapUpdate; refine IMap.wpList_put rfl _ _ _ 280 rfl Tryz.underlying3 Tryz.underlying4 Tryz.underlying280 rfl HM.out (by unfold maxLen; omega) x HWX.out rfl rfl ?_; intro w9 hm9 hg9; have HM9 := Aside0.mk hm9; have HB9 := Aside0.mk (HB.out.grown hg9 (oM HB.out) (fun k e => by cases e; exact Nat.le_refl _)); clear hm9 hg9)
   go_roundg kk
   case measure => omega
   case rel => exact ⟨n + 1, hlt, ⟨by omega⟩, by simp, ⟨by
    have := HM9.out
    have e : (fun x => (l0.take (n + 1)).contains x) = (fun y => y == x || (l0.take n).contains y) := by
     funext y
     rw [HTK.out]
     rw [Bool.eq_iff_iff]
     simp [or_comm]
    rw [e]
    exact this⟩, HB9⟩
  ·obtain rfl : n = l0.length := by omega
   go_wp2
   go_ret
   exact ⟨rfl, by simpa using HM.out, HB.out⟩

end Go.Ax.Cd
