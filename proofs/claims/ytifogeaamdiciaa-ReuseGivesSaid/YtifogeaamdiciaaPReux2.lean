-- Printed by wip/tools/myprint.py of this repo, over the kit's printer
import Derived.Test.YtifogeaamdiciaaPReux0
namespace Go.Proofs.Ytifogeaamdiciaa.PReu
open Go.RowKit Go.Proofs.YtifogeaamdiciaaW.PrintWords Go.Proofs.YtifogeaamdiciaaW.PrintLast Go.Proofs.YtifogeaamdiciaaW.PrintMore
attribute [local go_sem] max2_int min2_int max_two min_two max_three min_three max_four min_four max_five min_five   -- for this text's walks alone
set_option linter.unusedVariables false
set_option linter.unusedSimpArgs false

/-! ### api_Touch: function 59 (helper) -/
-- OVERRIDE tendril/reuse.those[tendril/api.Touch] name=reuse_those_tendril_api_Touch rounds=0 making=1 helper=1 imports=Derived.Shelf.Abstract
open Go.Shelf
def S60v (x : S60) : Value := .agg #[.int .i64 x.f0, .int .i64 x.f1, .int .i64 x.f2, .int .i64 x.f3, .int .i64 x.f4, .int .i64 x.f5, .int .i64 x.f6, .bool x.f7]
/-- The predicate's closure, in whatever world in which what was there when the call began is as it was. -/
def SoAt (w : World) (g : Nat) (cb : Array Value) (p : S60 → Bool) : Prop :=
  ∀ (x : S60) (W : World), Below w.heap.size w W → Calls Try.prog g (#[S60v x] ++ cb) W fun e W' => e = .returned (.bool (p x)) ∧ Below W.heap.size W W'
set_option maxHeartbeats 8000000 in
set_option maxRecDepth 100000 in
theorem those_calls (g : Nat) (cb : Array Value) (p : S60 → Bool) (A0 : Option Addr) (c0 : Nat) (l0 : List S60) (w : World) (eg : ∀ args w, (callFunc g args).run Try.prog w = .ok (.enter g args) w) (hso : SoAt w g cb p)
    (hr0 : Kd.C k60 w A0 l0.length l0) (hc0 : l0.length ≤ c0) (hl : l0.length ≤ 2199023255552) :
    Calls Try.prog 59 #[.slice A0 l0.length c0, .func (.func g) #[] cb] w fun e w' => ∃ v0_ : Value, e = .returned (v0_) ∧ Kd.R k60 60 w' w.heap.size (fun _ => True) v0_ (l0.filter p) ∧ Below w.heap.size w w' := by
  have hu_ := Try.underlying60
  have HR0 := Aside0.mk hr0
  have HC0 := Aside0.mk hc0
  have HSO := Aside0.mk hso
  clear hr0 hc0 hso
  have HB := Aside0.mk (Below.refl w.heap.size w)
  go_enter Try.func59, Try.ntmps59
  go_wp2
  go_loopg [5, 10] l0.length (fun kq v3 v8 w' => ∃ n : Nat, n ≤ l0.length ∧ Aside0 (n + kq = l0.length) ∧ v8 = .int .i64 n ∧ Aside0 (Kd.R k60 60 w' w.heap.size (fun _ => True) v3 ((l0.take n).filter p)) ∧ Aside0 (Below w.heap.size w w'))
  case atStart => exact ⟨0, Nat.zero_le _, ⟨by omega⟩, rfl, ⟨Kd.R_nil _ _ _ _ _⟩, ⟨by repeat (first | (with_reducible first | exact HB.out | apply below_alloc | apply pw_below_drewN | apply below_drew1) | exact HB.out)⟩⟩
  case round =>
    obtain ⟨n, hn, HK, rfl, HO_3, HB⟩ := hrel
    by_cases hlt : n < l0.length
    · obtain ⟨ad, ead, x0, x1, x2, x3, x4, x5, x6, x7⟩ := at_T60 HR0.out (n : Int) (by omega) (by omega)
      cases ead
      replace x0 := (HB.out.cell (World.block_lt_of_cell? w _ x0)).trans x0
      replace x1 := (HB.out.cell (World.block_lt_of_cell? w _ x1)).trans x1
      replace x2 := (HB.out.cell (World.block_lt_of_cell? w _ x2)).trans x2
      replace x3 := (HB.out.cell (World.block_lt_of_cell? w _ x3)).trans x3
      replace x4 := (HB.out.cell (World.block_lt_of_cell? w _ x4)).trans x4
      replace x5 := (HB.out.cell (World.block_lt_of_cell? w _ x5)).trans x5
      replace x6 := (HB.out.cell (World.block_lt_of_cell? w _ x6)).trans x6
      replace x7 := (HB.out.cell (World.block_lt_of_cell? w _ x7)).trans x7
      have hx : rd_T60 l0 (n : Int) = l0[n] := by simp [rd_T60, hlt]
      have hxl : (l0.take (n + 1)).filter p = (l0.take n).filter p ++ (if p l0[n] then [l0[n]] else []) := by
        rw [List.take_succ_eq_append_getElem hlt, List.filter_append]
        simp [List.filter_cons]
      rw [hx] at x0 x1 x2 x3 x4 x5 x6 x7
      simp only [Int.toNat_natCast] at x0 x1 x2 x3 x4 x5 x6 x7
      generalize l0[n] = x at x0 x1 x2 x3 x4 x5 x6 x7 hxl
      have HXL := Aside0.mk hxl
      clear hxl hx
      go_wp2_with fail
      refine (HSO.out x _ ?hb).mono ?_
      case hb => exact HB.out.alloc (below_size HB.out) _
      rintro e W3 ⟨rfl, hb3⟩
      have hblk := blk_below (blk_new wr (.cells #[.int .i64 x.f0, .int .i64 x.f1, .int .i64 x.f2, .int .i64 x.f3, .int .i64 x.f4, .int .i64 x.f5, .int .i64 x.f6, .bool x.f7] 60)) hb3
      have y0 : W3.cell? ⟨wr.heap.size, 0, none⟩ = some (.int .i64 x.f0) := (blk_cell hblk 0).trans rfl
      have y1 : W3.cell? ⟨wr.heap.size, 1, none⟩ = some (.int .i64 x.f1) := (blk_cell hblk 1).trans rfl
      have y2 : W3.cell? ⟨wr.heap.size, 2, none⟩ = some (.int .i64 x.f2) := (blk_cell hblk 2).trans rfl
      have y3 : W3.cell? ⟨wr.heap.size, 3, none⟩ = some (.int .i64 x.f3) := (blk_cell hblk 3).trans rfl
      have y4 : W3.cell? ⟨wr.heap.size, 4, none⟩ = some (.int .i64 x.f4) := (blk_cell hblk 4).trans rfl
      have y5 : W3.cell? ⟨wr.heap.size, 5, none⟩ = some (.int .i64 x.f5) := (blk_cell hblk 5).trans rfl
      have y6 : W3.cell? ⟨wr.heap.size, 6, none⟩ = some (.int .i64 x.f6) := (blk_cell hblk 6).trans rfl
      have y7 : W3.cell? ⟨wr.heap.size, 7, none⟩ = some (.bool x.f7) := (blk_cell hblk 7).trans rfl
      have HO3 := Aside0.mk (Kd.R_below (Kd.R_alloc HO_3.out _) hb3)
      have HB3 := Aside0.mk (below_step (HB.out.alloc (below_size HB.out) _) hb3)
      clear hblk hb3 HO_3 HB
      cases hp : p x with
      | false =>
        rw [hp] at HXL
        have HP := Aside0.mk hp
        clear hp
        have hd := HK.out
        obtain ⟨kk, rfl⟩ : ∃ q, gk = q + 1 := ⟨gk - 1, by omega⟩
        go_wp2
        go_roundg kk
        case measure => omega
        case rel => exact ⟨n + 1, hlt, ⟨by omega⟩, by simp, ⟨by rw [HXL.out]; simpa using HO3.out⟩, HB3⟩
      | true =>
        rw [hp] at HXL
        have HP := Aside0.mk hp
        clear hp
        have hd := HK.out
        obtain ⟨kk, rfl⟩ : ∃ q, gk = q + 1 := ⟨gk - 1, by omega⟩
        have hlen : (List.filter p (List.take n l0)).length ≤ n := Nat.le_trans (List.length_filter_le _ _) (List.length_take_le _ _)
        have HLEN := Aside0.mk hlen
        clear hlen
        go_wp2_with ((with_reducible refine gate_builtin (b := .append) (xs := #[.tmp 17, .tmp 19]) rfl ?_); at_builtin; refine Kd.R_append k60 (w0 := w) w.heap.size rfl (.tmp 17) (.tmp 19) 35 60 (.agg #[(.int .i64 0), (.int .i64 0), (.int .i64 0), (.int .i64 0), (.int .i64 0), (.int .i64 0), (.int .i64 0), (.bool false)]) 64 rfl Try.underlying35 info60 rfl (by decide) (by omega) u5 (List.filter p (List.take n l0)) x [.int .i64 x.f0, .int .i64 x.f1, .int .i64 x.f2, .int .i64 x.f3, .int .i64 x.f4, .int .i64 x.f5, .int .i64 x.f6, .bool x.f7] (fun _ => True) (fun _ => False) rfl rfl ?aP (fun _ hk => hk.elim) ?aF ?aO ?aB ?aS ?aL ?_; (case aP => exact k60_mkM _ _ _ x); (case aB => exact HB3.out); (case aF => exact fun _ _ => trivial); (case aO => exact HO3.out); (case aS => exact below_size HB3.out); (case aL => have := HLEN.out; omega); intro v249 w11 ho hb hg hat; have HO4 := Aside0.mk ho; have HB4 := Aside0.mk hb; clear ho hb hg hat)
        go_roundg kk
        case measure => omega
        case rel => exact ⟨n + 1, hlt, ⟨by omega⟩, by simp, ⟨by rw [HXL.out, if_pos trivial]; exact HO4.out⟩, HB4⟩
    · obtain rfl : n = l0.length := by omega
      go_wp2
      go_ret
      exact ⟨_, rfl, by rw [List.take_length] at HO_3; exact HO_3.out, HB.out⟩

set_option maxHeartbeats 8000000 in
set_option maxRecDepth 100000 in
theorem stale_so (x : S60) (W : World) : Calls Try.prog 60 #[S60v x] W fun e W' => e = .returned (.bool (x.f4 != x.f5)) ∧ Below W.heap.size W W' := by
  have hu_ := Try.underlying60
  unfold S60v
  go_enter Try.func60, Try.ntmps60
  go_wp2
  go_ret
  exact ⟨rfl, (Below.refl _ W).alloc (Nat.le_refl _) _⟩
set_option maxHeartbeats 8000000 in
set_option maxRecDepth 100000 in
theorem idle_so (x : S60) (W : World) : Calls Try.prog 61 #[S60v x] W fun e W' => e = .returned (.bool (x.f6 == 0)) ∧ Below W.heap.size W W' := by
  have hu_ := Try.underlying60
  unfold S60v
  go_enter Try.func61, Try.ntmps61
  go_wp2
  go_ret
  exact ⟨rfl, (Below.refl _ W).alloc (Nat.le_refl _) _⟩
set_option maxHeartbeats 8000000 in
set_option maxRecDepth 100000 in
theorem of_so (g : Nat) (t : Int) (x : S60) (W : World) (hc : W.cell? ⟨g, 0, none⟩ = some (.int .i64 t)) (hg : g < W.heap.size) : Calls Try.prog 62 #[S60v x, .pointer (some ⟨g, 0, none⟩)] W fun e W' => e = .returned (.bool (x.f0 == t)) ∧ Below W.heap.size W W' := by
  have hu_ := Try.underlying60
  unfold S60v
  go_enter Try.func62, Try.ntmps62
  go_wp2
  go_ret
  exact ⟨rfl, (Below.refl _ W).alloc (Nat.le_refl _) _⟩


end Go.Proofs.Ytifogeaamdiciaa.PReu
