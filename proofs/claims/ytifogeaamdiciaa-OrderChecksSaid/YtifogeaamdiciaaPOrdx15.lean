-- Printed by wip/tools/myprint.py of this repo, over the kit's printer
import Derived.Test.YtifogeaamdiciaaPOrdx0
import Derived.Test.YtifogeaamdiciaaPOrdx3
namespace Go.Proofs.Ytifogeaamdiciaa.POrd
open Go.RowKit Go.Proofs.YtifogeaamdiciaaW.PrintWords Go.Proofs.YtifogeaamdiciaaW.PrintLast Go.Proofs.YtifogeaamdiciaaW.PrintMore
attribute [local go_sem] max2_int min2_int max_two min_two max_three min_three max_four min_four max_five min_five   -- for this text's walks alone
set_option linter.unusedVariables false
set_option linter.unusedSimpArgs false

/-! ### order_Union: function 52 (override) -/
-- OVERRIDE tendril/order.Union name=order_Union rounds=0 making=1 imports=Derived.Test.YtifogeaamdiciaaOShelf needs=tendril/order.Set
open Go.Shelf
theorem grow_calls (n : Nat) (hn : n ≤ 17592186044414) (w : World) : Calls Try.prog 79 #[.slice none 0 0, .int .i64 (n : Int)] w fun e w' => ∃ v : Value, e = .returned v ∧ Kd.R (Kd.int .i64) 3 w' w.heap.size (fun _ => True) v [] ∧ Below w.heap.size w w' := by
  rcases Nat.eq_zero_or_pos n with rfl | hp
  · have := Any8.slices_Grow_room Try.growA none 0 0 0 w (Nat.le_refl _) (by omega) (by omega) (by omega)
    refine Calls.mono this ?_
    rintro e w' ⟨rfl, rfl⟩
    exact ⟨_, rfl, Kd.R_nil _ _ _ _ _, Below.refl _ _⟩
  · obtain ⟨i0, hi, hz, hsz, hby⟩ := info_parts info3
    have := Any8.slices_Grow_grow Try.growA i0 (.int .i64 0) hi hz (by omega) none 0 0 n [] w (Nat.le_refl _) (by omega) (by rw [hby]; omega) (by omega) (by simp) (by simp) (by simp)
    refine Calls.mono this ?_
    rintro e w' ⟨he, hw⟩
    have hge := grownCap_ge w (0 + n) 0 3
    have hle := grownCap_le_maxLen w (0 + n) 0 3 (by unfold maxLen; omega)
    replace he : e = .returned (.slice (some ⟨w.heap.size, 0, none⟩) 0 (grownCap w (0 + n) 0 3)) := he
    replace hw : w' = w.drew.alloc (.cells (([] : List Value).toArray ++ Builtin.zeroCells (Value.int .i64 0).cells (0 + n - 0) ++ Builtin.zeroCells (Value.int .i64 0).cells (grownCap w (0 + n) 0 3 - (0 + n))) 3) := hw
    generalize grownCap w (0 + n) 0 3 = cap at he hw hge hle
    subst he hw
    refine ⟨_, rfl, ?_, below_alloc (below_drew1 (Below.refl _ w)) _⟩
    have hblk := blk_new w.drew (.cells (([] : List Value).toArray ++ Builtin.zeroCells (Value.int .i64 0).cells (0 + n - 0) ++ Builtin.zeroCells (Value.int .i64 0).cells (cap - (0 + n))) 3)
    refine Kd.R_of_own (h1 := fun _ => rfl) (xs := ([] : List Int)) ⟨by simp [encs], .inr ⟨w.heap.size, _, _, rfl, Nat.le_refl _, hblk, by simp, hle, ?_, by simp [encs]⟩⟩ (fun _ _ => trivial)
    rw [Array.size_append, Array.size_append, size_zeroCells, size_zeroCells, show (Value.int .i64 0).cells.size = 1 from rfl, show ([] : List Value).toArray.size = 0 from rfl]
    omega
set_option maxHeartbeats 8000000 in
set_option maxRecDepth 100000 in
theorem concat_calls (g : Nat) (A0 : Option Addr) (c0 : Nat) (l0 : List Int) (A1 : Option Addr) (c1 : Nat) (l1 : List Int) (w : World) (hr0 : Kd.C (Kd.int .i64) w A0 l0.length l0) (hr1 : Kd.C (Kd.int .i64) w A1 l1.length l1)
    (hl0 : l0.length ≤ 8796093022207) (hl1 : l1.length ≤ 8796093022207)
    (hx0 : w.cell? ⟨g, 0, none⟩ = some (.slice A0 l0.length c0)) (hx1 : w.cell? ⟨g, 1, none⟩ = some (.slice A1 l1.length c1)) :
    Calls Try.prog 70 #[.slice (some ⟨g, 0, none⟩) 2 2] w fun e w' => ∃ v0_ : Value, e = .returned (v0_) ∧ Kd.R (Kd.int .i64) 3 w' w.heap.size (fun _ => True) v0_ (l0 ++ l1) ∧ Below w.heap.size w w' := by
  have HR0 := Aside0.mk hr0
  have HR1 := Aside0.mk hr1
  have HX0 := Aside0.mk hx0
  have HX1 := Aside0.mk hx1
  clear hr0 hr1 hx0 hx1
  go_enter Try.func70, Try.ntmps70
  go_wp2
  go_loopg [3, 11] 2 (fun kq v3 v11 w' => Drawn0 w w' ∧ ((Aside0 (kq = 2) ∧ v11 = .int .i64 0 ∧ v3 = .int .i64 0) ∨ (Aside0 (kq = 1) ∧ v11 = .int .i64 1 ∧ v3 = .int .i64 (l0.length : Int)) ∨ (Aside0 (kq = 0) ∧ v11 = .int .i64 2 ∧ v3 = .int .i64 (((l0.length + l1.length : Nat)) : Int))))
  case atStart => exact ⟨by repeat (first | exact Drawn0.refl _ | apply Drawn0.step), .inl ⟨⟨rfl⟩, rfl, rfl⟩⟩
  case round =>
    obtain ⟨⟨m1, rfl⟩, ⟨HK, rfl, rfl⟩ | ⟨HK, rfl, rfl⟩ | ⟨HK, rfl, rfl⟩⟩ := hrel
    · have x0 := HX0.out
      obtain rfl := HK.out
      have h1 : wrap64 (0 + (l0.length : Int)) = (l0.length : Int) := by unfold wrap64; omega
      have h2 : ¬ ((l0.length : Int) < 0) := by omega
      go_wp2
      go_roundg 1
      case measure => omega
      case rel => exact ⟨by repeat (first | exact Drawn0.refl _ | apply Drawn0.step), .inr (.inl ⟨⟨rfl⟩, rfl, rfl⟩)⟩
    · have x1 := HX1.out
      obtain rfl := HK.out
      have h1 : wrap64 ((l0.length : Int) + (l1.length : Int)) = ((l0.length + l1.length : Nat) : Int) := by unfold wrap64; omega
      have h2 : ¬ (((l0.length + l1.length : Nat) : Int) < 0) := by omega
      go_wp2
      go_roundg 0
      case measure => omega
      case rel => exact ⟨by repeat (first | exact Drawn0.refl _ | apply Drawn0.step), .inr (.inr ⟨⟨rfl⟩, rfl, rfl⟩)⟩
    · obtain rfl := HK.out
      clear HK
      go_wp2_with fail
      refine (grow_calls (l0.length + l1.length) (by omega) _).mono ?_
      rintro e w2 ⟨v, rfl, hv, hb⟩
      have hd : Below w.heap.size w (w.drewN m1) := by repeat (first | exact Below.refl _ _ | apply pw_below_drewN)
      have HV := Aside0.mk (Kd.R_lower hv (below_size hd))
      have HB := Aside0.mk (below_step hd hb)
      clear hv hb hd
      go_wp2
      go_loopg [6, 27] 2 (fun kq v6 v27 w' => ∃ v : Value, v = v6 ∧ Aside0 (Below w.heap.size w w') ∧ ((Aside0 (kq = 2) ∧ v27 = .int .i64 0 ∧ Aside0 (Kd.R (Kd.int .i64) 3 w' w.heap.size (fun _ => True) v [])) ∨ (Aside0 (kq = 1) ∧ v27 = .int .i64 1 ∧ Aside0 (Kd.R (Kd.int .i64) 3 w' w.heap.size (fun _ => True) v l0)) ∨ (Aside0 (kq = 0) ∧ v27 = .int .i64 2 ∧ Aside0 (Kd.R (Kd.int .i64) 3 w' w.heap.size (fun _ => True) v (l0 ++ l1)))))
      case atStart => exact ⟨v, rfl, HB, .inl ⟨⟨rfl⟩, rfl, HV⟩⟩
      case round =>
        clear HV HB
        obtain ⟨v6, rfl, HB, ⟨HK, rfl, HV⟩ | ⟨HK, rfl, HV⟩ | ⟨HK, rfl, HV⟩⟩ := hrel
        · have x0 := (HB.out.cell (World.block_lt_of_cell? w _ HX0.out)).trans HX0.out
          obtain rfl := HK.out
          go_wp2_with (first | ((with_reducible refine gate_builtin (b := .append) (xs := #[.tmp 31, .tmp 32]) rfl ?_); at_builtin; refine Kd.R_append_rows (Kd.int .i64) (w0 := w) w.heap.size rfl (.tmp 31) (.tmp 32) 22 3 (.int .i64 0) 8 rfl Try.underlying22 info3 rfl (by decide) (by omega) v6 [] l0 _ _ _ (fun _ => True) (fun _ => False) rfl rfl HV.out (Kd.C_below HR0.out HB.out) (fun _ _ h => h) (fun _ h => h.elim) (fun _ _ => trivial) HB.out (below_size HB.out) (by simp; omega) ?_; intro v9 w9 ho hb hg hat; have HB9 := Aside0.mk hb; have HV9 := Aside0.mk ho; clear ho hb hg hat))
          go_roundg 1
          case measure => omega
          case rel => exact ⟨v9, rfl, HB9, .inr (.inl ⟨⟨rfl⟩, rfl, HV9⟩)⟩
        · have x0 := (HB.out.cell (World.block_lt_of_cell? w _ HX1.out)).trans HX1.out
          obtain rfl := HK.out
          go_wp2_with (first | ((with_reducible refine gate_builtin (b := .append) (xs := #[.tmp 31, .tmp 32]) rfl ?_); at_builtin; refine Kd.R_append_rows (Kd.int .i64) (w0 := w) w.heap.size rfl (.tmp 31) (.tmp 32) 22 3 (.int .i64 0) 8 rfl Try.underlying22 info3 rfl (by decide) (by omega) v6 l0 l1 _ _ _ (fun _ => True) (fun _ => False) rfl rfl HV.out (Kd.C_below HR1.out HB.out) (fun _ _ h => h) (fun _ h => h.elim) (fun _ _ => trivial) HB.out (below_size HB.out) (by omega) ?_; intro v9 w9 ho hb hg hat; have HB9 := Aside0.mk hb; have HV9 := Aside0.mk ho; clear ho hb hg hat))
          go_roundg 0
          case measure => omega
          case rel => exact ⟨v9, rfl, HB9, .inr (.inr ⟨⟨rfl⟩, rfl, HV9⟩)⟩
        · obtain rfl := HK.out
          go_wp2
          go_ret
          exact ⟨v6, rfl, HV.out, HB.out⟩
def order_Union.f (l0 : List Int) (l1 : List Int) : Option (List Int) := if (l0.length ≤ 8796093022207 ∧ (∀ x ∈ l0, (Lit.int .i64 x).wf = true)) ∧ l1.length ≤ 8796093022207 ∧ (∀ x ∈ l1, (Lit.int .i64 x).wf = true) then some (setL (l0 ++ l1)) else none
set_option maxHeartbeats 8000000 in
set_option maxRecDepth 100000 in
theorem order_Union.calls (A0 : Option Addr) (c0 : Nat) (l0 : List Int) (A1 : Option Addr) (c1 : Nat) (l1 : List Int) (r : List Int) (w : World) (hr0 : Kd.C (Kd.int .i64) w A0 l0.length l0) (hc0 : l0.length ≤ c0) (hr1 : Kd.C (Kd.int .i64) w A1 l1.length l1) (hc1 : l1.length ≤ c1) (h : order_Union.f l0 l1 = some r) :
    Calls Try.prog 52 #[.slice A0 l0.length c0, .slice A1 l1.length c1] w fun e w' => ∃ v0_ : Value, e = .returned (v0_) ∧ Kd.R (Kd.int .i64) 3 w' w.heap.size (fun _ => True) v0_ r ∧ Below w.heap.size w w' := by
  unfold order_Union.f at h
  split at h
  case isFalse => cases h
  rename_i hh
  obtain rfl := Option.some.inj h
  clear h
  obtain ⟨⟨hl0, hw0⟩, hl1, hw1⟩ := hh
  have HR0 := Aside0.mk hr0
  have HR1 := Aside0.mk hr1
  clear hr0 hr1 hc0 hc1
  go_enter Try.func52, Try.ntmps52
  go_wp2_with fail
  have hbw : Below w.heap.size w (w.alloc (.cells #[.slice A0 l0.length c0, .slice A1 l1.length c1] 22)) := (Below.refl _ w).alloc (Nat.le_refl _) _
  have hblk := blk_new w (.cells #[.slice A0 l0.length c0, .slice A1 l1.length c1] 22)
  refine (concat_calls w.heap.size A0 c0 l0 A1 c1 l1 _ (Kd.C_below HR0.out hbw) (Kd.C_below HR1.out hbw) hl0 hl1 ((blk_cell hblk 0).trans rfl) ((blk_cell hblk 1).trans rfl)).mono ?_
  rintro e w2 ⟨v, rfl, hv, hb⟩
  have HV := Aside0.mk (Kd.R_lower hv (below_size hbw))
  have HB := Aside0.mk (below_step hbw hb)
  clear hv hb hbw hblk
  obtain ⟨Ao, co, rfl⟩ := Kd.R_slice HV.out
  obtain ⟨_, hco, hCo⟩ := Kd.R_reads' HV.out
  go_wp2_with fail
  have cS := order_Set.calls Ao co (l0 ++ l1) (setL (l0 ++ l1)) w2 hCo hco (by
    rw [order_Set.f, if_pos ⟨by rw [List.length_append]; omega, fun x hx => (List.mem_append.1 hx).elim (hw0 x) (hw1 x)⟩])
  rw [List.length_append] at cS
  refine cS.mono ?_
  rintro e w3 ⟨v3, rfl, hv3, hb3⟩
  have HV3 := Aside0.mk (Kd.R_lower hv3 (below_size HB.out))
  have HB3 := Aside0.mk (below_step HB.out hb3)
  clear hv3 hb3
  go_wp2
  go_ret
  exact ⟨v3, rfl, HV3.out, HB3.out⟩

end Go.Proofs.Ytifogeaamdiciaa.POrd
