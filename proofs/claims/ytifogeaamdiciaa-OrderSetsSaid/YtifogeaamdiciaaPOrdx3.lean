-- Printed by wip/tools/myprint.py of this repo, over the kit's printer
import Derived.Test.YtifogeaamdiciaaPOrdx0
import Derived.Test.YtifogeaamdiciaaPOrdx2
namespace Go.Proofs.Ytifogeaamdiciaa.POrd
open Go.RowKit Go.Proofs.YtifogeaamdiciaaW.PrintWords Go.Proofs.YtifogeaamdiciaaW.PrintLast Go.Proofs.YtifogeaamdiciaaW.PrintMore
attribute [local go_sem] max2_int min2_int max_two min_two max_three min_three max_four min_four max_five min_five   -- for this text's walks alone
set_option linter.unusedVariables false
set_option linter.unusedSimpArgs false

/-! ### order_Set: function 41 (override) -/
-- OVERRIDE tendril/order.Set name=order_Set rounds=0 making=1 imports=Derived.Test.YtifogeaamdiciaaOShelf,Derived.Test.YtifogeaamdiciaaIMap needs=tendril/order.met
open Go.Shelf Go.Sort Go.Maps
def dedupL : List Int → List Int
  | [] => []
  | x :: r => if r.contains x then dedupL r else x :: dedupL r
theorem mem_dedupL (l : List Int) (x : Int) : x ∈ dedupL l ↔ x ∈ l := by
  induction l with
  | nil => simp [dedupL]
  | cons a l ih =>
    rw [dedupL]
    split
    · rename_i h
      rw [ih, List.mem_cons]
      exact ⟨.inr, fun h2 => h2.elim (fun e => by rw [e]; exact List.contains_iff_mem.1 h) id⟩
    · rw [List.mem_cons, List.mem_cons, ih]
theorem nodup_dedupL (l : List Int) : (dedupL l).Nodup := by
  induction l with
  | nil => exact List.nodup_nil
  | cons a l ih =>
    rw [dedupL]
    split
    · exact ih
    · rename_i h
      rw [List.nodup_cons, mem_dedupL]
      exact ⟨fun hm => h (List.contains_iff_mem.2 hm), ih⟩
def setL (l : List Int) : List Int := (dedupL l).mergeSort (fun x y => decide (x ≤ y))
def order_Set.f (l0 : List Int) : Option (List Int) := if l0.length ≤ 17592186044416 ∧ (∀ x ∈ l0, (Lit.int .i64 x).wf = true) then some (setL l0) else none
theorem Try.sortsA (m : Nat) : AnyZI.SortsIn Try.prog Try.sortedA_ren Fence.wide m :=
  ⟨fun blk off cap ss W hH hblk hsz => callsIn_wide.2 (AnyM.slices_Sort_int Try.sortA blk off cap ss W hH hblk hsz),
   fun p cap W => callsIn_wide.2 (AnyM.slices_Sort_int_none Try.sortA p cap W)⟩
set_option maxHeartbeats 8000000 in
set_option maxRecDepth 100000 in
theorem order_Set.calls (A0 : Option Addr) (c0 : Nat) (l0 : List Int) (r : List Int) (w : World) (hr0 : Kd.C (Kd.int .i64) w A0 l0.length l0) (hc0 : l0.length ≤ c0) (h : order_Set.f l0 = some r) :
    Calls Try.prog 41 #[.slice A0 l0.length c0] w fun e w' => ∃ v0_ : Value, e = .returned (v0_) ∧ Kd.R (Kd.int .i64) 3 w' w.heap.size (fun _ => True) v0_ r ∧ Below w.heap.size w w' := by
  unfold order_Set.f at h
  by_cases hh : l0.length ≤ 17592186044416 ∧ (∀ x ∈ l0, (Lit.int .i64 x).wf = true)
  case neg => rw [if_neg hh] at h; cases h
  rw [if_pos hh] at h
  obtain rfl := Option.some.inj h
  clear h
  have HR0 := Aside0.mk hr0
  have HC0 := Aside0.mk hc0
  clear hr0 hc0
  go_enter Try.func41, Try.ntmps41
  go_wp2_with fail
  refine (met_calls A0 c0 l0 w HR0.out HC0.out (by omega) hh.2).mono ?_
  rintro e w1 ⟨rfl, ⟨D, hown, hS⟩, hb1⟩
  have hsz1 := below_size hb1
  have hk : Try.prog.underlying 3 = some (.int .i64) := Try.underlying3
  obtain ⟨hnd, hmem⟩ := IMap.keys_of hk hown
  have hszD : Maps.size D ≤ l0.length := hown.size_le
  have hbl := hown.lt
  have hseq : SeqGives Fence.wide 2 Try.prog 75 #[.pointer (some ⟨w1.heap.size, 0, none⟩)] encZ (fun ss => ss.Perm (intKeys D)) (Maps.size D) (w1.alloc (.cells #[.map (some w.heap.size)] 72)) :=
    AnyZI.keys_gives (ρ := Try.keysA_ren) { Try.keysA with } Fence.wide _ trivial rfl (by omega) w1.heap.size w.heap.size l0.length D _ (by simp) (by simp) (by
      obtain ⟨es, clock, hb, Ft, hs, hD⟩ := hown
      exact ⟨es, clock, (Below.heap_alloc _ _ w.heap.size hbl).trans hb, Ft, hs, hD⟩)
  have cK : Calls Try.prog 66 #[.map (some w.heap.size)] w1 fun e w' => e = .returned (.func (.func 75) #[] #[.pointer (some ⟨w1.heap.size, 0, none⟩)]) ∧ w' = w1.alloc (.cells #[.map (some w.heap.size)] 72) := (callsIn_wide (n := 5)).1 (AnyZI.keys_in Try.keysA Fence.wide 5 trivial rfl _ w1)
  have cS := AnyZI.sorted_in Try.sortedA Fence.wide 5 trivial trivial trivial trivial rfl (by omega) (Try.sortsA _) (enters_of Try.func63 (by kernel_rfl) rfl) 75 #[.pointer (some ⟨w1.heap.size, 0, none⟩)] trivial (enters_of Try.func75 (by kernel_rfl) rfl) _ _ (by unfold maxLen; omega) (by omega) _ hseq
  change CallsIn _ _ Try.prog 65 _ _ _ at cS
  have cS := callsIn_wide.1 cS
  have HD := Aside0.mk (And.intro hnd hmem)
  have HS := Aside0.mk hS
  have HB1 := Aside0.mk hb1
  clear hown hseq hnd hmem hS hb1 hszD hbl hk
  go_wp2_with fail
  refine cK.mono ?_
  rintro e w2 ⟨rfl, rfl⟩
  go_wp2_with fail
  refine cS.mono ?_
  rintro e w3 ⟨v, ss, rfl, hp, hrow, hnil, hb3⟩
  have hms : ss.mergeSort (fun x y => decide (x ≤ y)) = setL l0 := by
    refine mergeSort_of_perm_i (hp.trans ?_)
    refine (List.perm_ext_iff_of_nodup HD.out.1 (nodup_dedupL l0)).2 fun x => ?_
    rw [HD.out.2, mem_dedupL, (HS.out x).2, List.contains_iff_mem]
  have hlen : ss.length = (setL l0).length := by rw [← hms, List.length_mergeSort]
  have hba : Below w.heap.size w (w1.alloc (.cells #[.map (some w.heap.size)] 72)) := HB1.out.alloc hsz1 _
  have hR : Kd.R (Kd.int .i64) 3 w3 w.heap.size (fun _ => True) v (setL l0) := by
    rw [hms, hlen] at hrow
    exact Kd.R_of_own (h1 := fun _ => rfl) (ownsRow_base_a hrow (by simp; omega)) (fun _ _ => trivial)
  have HV := Aside0.mk hR
  have HB := Aside0.mk (below_step hba hb3)
  clear hR hba hb3 hms hlen hp hrow hnil cK cS
  go_wp2
  go_ret
  exact ⟨v, rfl, HV.out, HB.out⟩

end Go.Proofs.Ytifogeaamdiciaa.POrd
