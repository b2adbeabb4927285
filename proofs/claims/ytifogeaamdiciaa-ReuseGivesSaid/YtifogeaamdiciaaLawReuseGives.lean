-- Printed by wip/tools/myprint.py of this repo, over the kit's printer
import Derived.Test.YtifogeaamdiciaaRows
import Derived.Test.YtifogeaamdiciaaPReux21
import Derived.Test.YtifogeaamdiciaaPureReuseGives
import Derived.Test.YtifogeaamdiciaaOpens
import Derived.WalkKit
import Derived.ProofKit
import Derived.OpenShut
import Derived.ShutString
import Derived.ChangeOld
import Derived.Below
import Derived.SizedLaws
namespace Go.Proofs.Ytifogeaamdiciaa.reuseGives
open Go.ChangeShapes Go.WideShapes Go.ChangeAt Go.RowKit Go.Proofs.Ytifogeaamdiciaa.PReu Go.Proofs.Ytifogeaamdiciaa.Opens Go.Proofs.YtifogeaamdiciaaW.PrintWords Go.Proofs.YtifogeaamdiciaaW.PrintLast
open Go.ChangeMaps (open_string shut_string)
set_option linter.unusedVariables false
theorem own : ownKnob Try.prog.godebug = none := by kernel_rfl
theorem laidOut : laidOutB Try.prog = true := by kernel_rfl
theorem o65 : Opens Try.prog 65 k65 (fun x => Wf65 x) :=
  (((Opens.struct Try.underlying65 (by kernel_rfl) (OpensFs.cons rfl rfl (by kernel_rfl) (Opens.int Try.underlying3) (OpensFs.cons rfl rfl (by kernel_rfl) (Opens.int Try.underlying3) (OpensFs.cons rfl rfl (by kernel_rfl) (Opens.int Try.underlying3) (OpensFs.cons rfl rfl (by kernel_rfl) (Opens.int Try.underlying3) (OpensFs.one rfl rfl (by kernel_rfl) (Opens.int Try.underlying3))))))).iso (fun x : S65 => (x.f0, x.f1, x.f2, x.f3, x.f4)) (fun p => ⟨p.1, p.2.1, p.2.2.1, p.2.2.2.1, p.2.2.2.2⟩) (fun _ => rfl))).mono (fun x h => by first | exact ⟨h.1, h.2.1, h.2.2.1, h.2.2.2.1, h.2.2.2.2⟩ | exact ⟨by simpa using h⟩)
theorem o123 : Opens Try.prog 123 k123 (fun x => Wf123 x) :=
  (((Opens.struct Try.underlying123 (by kernel_rfl) (OpensFs.cons rfl rfl (by kernel_rfl) (Opens.int Try.underlying3) (OpensFs.one rfl rfl (by kernel_rfl) (Opens.int Try.underlying3)))).iso (fun x : S123 => (x.f0, x.f1)) (fun p => ⟨p.1, p.2⟩) (fun _ => rfl))).mono (fun x h => by first | exact ⟨h.1, h.2⟩ | exact ⟨by simpa using h⟩)
theorem o125 : Opens Try.prog 125 k125 (fun x => Wf125 x) :=
  (((Opens.struct Try.underlying125 (by kernel_rfl) (OpensFs.cons rfl rfl (by kernel_rfl) (Opens.int Try.underlying3) (OpensFs.one rfl rfl (by kernel_rfl) (Opens.int Try.underlying3)))).iso (fun x : S125 => (x.f0, x.f1)) (fun p => ⟨p.1, p.2⟩) (fun _ => rfl))).mono (fun x h => by first | exact ⟨h.1, h.2⟩ | exact ⟨by simpa using h⟩)
theorem o69 : Opens Try.prog 69 k69 (fun x => Wf69 x) :=
  (((Opens.struct Try.underlying69 (by kernel_rfl) (OpensFs.cons rfl rfl (by kernel_rfl) (Opens.int Try.underlying32) (OpensFs.cons rfl rfl (by kernel_rfl) (Opens.int Try.underlying3) (OpensFs.cons rfl rfl (by kernel_rfl) (Opens.slice (B := 16) Try.underlying66 (by kernel_rfl) (by kernel_rfl) o123) (OpensFs.cons rfl rfl (by kernel_rfl) (Opens.slice (B := 16) Try.underlying67 (by kernel_rfl) (by kernel_rfl) o125) (OpensFs.one rfl rfl (by kernel_rfl) (Opens.slice (B := 16) Try.underlying67 (by kernel_rfl) (by kernel_rfl) o125))))))).iso (fun x : S69 => (x.f0, x.f1, x.f2, x.f3, x.f4)) (fun p => ⟨p.1, p.2.1, p.2.2.1, p.2.2.2.1, p.2.2.2.2⟩) (fun _ => rfl))).mono (fun x h => by first | exact ⟨h.1, h.2.1, h.2.2.1, h.2.2.2.1, h.2.2.2.2⟩ | exact ⟨by simpa using h⟩)
theorem o71 : Opens Try.prog 71 k71 (fun x => Wf71 x) :=
  (((Opens.struct Try.underlying71 (by kernel_rfl) (OpensFs.cons rfl rfl (by kernel_rfl) (Opens.int Try.underlying3) (OpensFs.cons rfl rfl (by kernel_rfl) (Opens.bool Try.underlying4) (OpensFs.cons rfl rfl (by kernel_rfl) o65 (OpensFs.one rfl rfl (by kernel_rfl) o69))))).iso (fun x : S71 => (x.f0, x.f1, x.f2, x.f3)) (fun p => ⟨p.1, p.2.1, p.2.2.1, p.2.2.2⟩) (fun _ => rfl))).mono (fun x h => by first | exact ⟨h.1, h.2.2.1, h.2.2.2⟩ | exact ⟨by simpa using h⟩)
set_option maxRecDepth 100000 in
theorem lifted (os : Os) (started : os.Started) (H : Type) (enc : TypeId × Value → H) :
    ReturnsInHanded {} Try.checked os 9 .any (Rows.reuseGivesSpec.pre6 enc Try.prog Try.f9 Rows.reuseGivesRow.domain false) (Rows.reuseGivesSpec.post enc Try.prog Try.f9 false true false false) := by
  refine returnsInHanded_of_change_sized (C := Try.checked) own started (by kernel_rfl) Try.func9
    (ChangeSpec.witness6 (enc := enc) (C := Try.checked) false ⟨#[], #[.slice none 0 0, .int .i64 0, .slice none 0 0], []⟩ 8 (by kernel_rfl) (by kernel_rfl) (by kernel_rfl) (by kernel_rfl)) ?_
  intro W base args ds gs before hval0 hW hcnd hsz0 _
  have hsz : (DataW.weightsEach Try.prog (Try.f9.params.toList ++ Rows.reuseGivesSpec.plain.varTypes Try.prog) (ds ++ gs)).all (· ≤ reachBytes) = true := hsz0
  have hval : ∀ (j : Nat) t v, Try.f9.params[j]? = some t → args[j]? = some v → Value.okWide Try.prog W .any base t v := hval0
  have hW' := hW
  obtain ⟨p, q, hA0, hV, rfl, hfz, hnd⟩ := hW
  have hA : DataW.TrodAll enc Try.prog W 0 (fun _ => true) true Try.f9.params.toList args.toList ds p := hA0
  rw [Try.params9] at hA hval hsz
  obtain ⟨v0, vs0, d0, ds0, p0, q0, hargs, rfl, rfl, h0, r0⟩ := trodAll_cons hA
  obtain ⟨v1, vs1, d1, ds1, p1, q1, rfl, rfl, rfl, h1, r1⟩ := trodAll_cons r0
  obtain ⟨v2, vs2, d2, ds2, p2, q2, rfl, rfl, rfl, h2, r2⟩ := trodAll_cons r1
  obtain ⟨rfl, rfl, rfl⟩ := trodAll_nil r2
  obtain rfl : args = #[v0, v1, v2] := by cases args; simp_all
  obtain ⟨rfl, rfl⟩ := trodVars_none hV
  have k0 := h0
  have lt0 : ∀ x ∈ p0, x.block < W.heap.size := by obtain ⟨m, hm⟩ := k0; exact DataW.trod_lt m _ _ _ hm
  obtain ⟨aa0, len0, cap0, rfl⟩ := okWide_slice Try.underlying43 (hval 0 43 v0 rfl rfl)
  obtain ⟨x0, hk0, hx0⟩ : ∃ x, (Kd.slice 71 k71).K W x (Value.cells (.slice aa0 len0 cap0)).toList ∧ (fun a_ : List (S71) => a_.length ≤ maxLen ∧ a_.length * 144 ≤ 140737488351232 ∧ (∀ e_0 ∈ a_, Wf71 e_0)) x := by
    obtain ⟨fuel, hf⟩ := h0
    exact (Opens.slice (B := 144) Try.underlying43 (by kernel_rfl) (by kernel_rfl) o71) H enc W 0 (fun _ => true) true fuel _ _ hf (weights_le hsz (j := 0) (t := 43) rfl rfl)
  obtain ⟨A0, c0, hcs0, hc0, hr0⟩ := hk0
  simp [Value.cells] at hcs0
  obtain ⟨rfl, rfl, rfl⟩ := hcs0
  obtain ⟨x1, rfl, rfl, rfl, w1⟩ := open_int Try.underlying3 (hval 1 3 v1 rfl rfl) h1
  have k2 := h2
  have lt2 : ∀ x ∈ p2, x.block < W.heap.size := by obtain ⟨m, hm⟩ := k2; exact DataW.trod_lt m _ _ _ hm
  obtain ⟨aa2, len2, cap2, rfl⟩ := okWide_slice Try.underlying22 (hval 2 22 v2 rfl rfl)
  obtain ⟨x2, hk2, hx2⟩ : ∃ x, (Kd.slice 3 (Kd.int .i64)).K W x (Value.cells (.slice aa2 len2 cap2)).toList ∧ (fun a_ : List Int => a_.length ≤ maxLen ∧ a_.length * 8 ≤ 140737488351232 ∧ (∀ e_0 ∈ a_, (Lit.int .i64 e_0).wf = true)) x := by
    obtain ⟨fuel, hf⟩ := h2
    exact (Opens.slice (B := 8) Try.underlying22 (by kernel_rfl) (by kernel_rfl) (Opens.int Try.underlying3)) H enc W 0 (fun _ => true) true fuel _ _ hf (weights_le hsz (j := 2) (t := 22) rfl rfl)
  obtain ⟨A2, c2, hcs2, hc2, hr2⟩ := hk2
  simp [Value.cells] at hcs2
  obtain ⟨rfl, rfl, rfl⟩ := hcs2
  clear hA0 hval0 hsz0 hsz
  obtain ⟨k, hpure⟩ := Pure.ReuseGives x0 x1 x2 hx0 w1 hx2
  refine (tendrillaw23_ReuseGives.calls k _ _ x0 x1 _ _ x2 true W hr0 hc0 hr2 hc2 hpure).mono fun e W' ⟨he, bel0⟩ => ?_
  have bel : Below W.heap.size W W' := bel0
  subst he
  exact ⟨_, rfl, _, _, _, [], _, [], hW', trodAll_mk1 (shut_bool Try.underlying4 _), (trodAll_cons_mk (Below.trod laidOut (by kernel_rfl) (of_decide_eq_true (by kernel_rfl)) k0 bel lt0) (trodAll_cons_mk (shut_int Try.underlying3 w1) (trodAll_cons_mk (Below.trod laidOut (by kernel_rfl) (of_decide_eq_true (by kernel_rfl)) k2 bel lt2) trodAll_mk0))), rfl, bel.frame _, fun h => by cases h⟩
theorem over : Rows.reuseGivesRow.holds Try.pinned (OpenSpec.ofChange Rows.reuseGivesSpec) :=
  OpenClaim.holds_of_wide 9 Try.f9 rfl rfl rfl rfl rfl rfl rfl ⟨rfl, rfl, rfl, rfl, rfl⟩ rfl rfl rfl rfl rfl (by kernel_rfl) Try.func9 (by kernel_rfl)
    (of_decide_eq_true (by kernel_rfl)) (by unfold Func.isWrapper; first | (rw [if_pos (by decide +kernel)]; kernel_rfl) | (rw [if_neg (by decide +kernel)]; exact ⟨rfl, rfl⟩))
    (fun os started H enc _ => lifted os started H enc)
theorem proved : Rows.ReuseGivesSaid := over
#print axioms proved
end Go.Proofs.Ytifogeaamdiciaa.reuseGives
namespace Go.Proofs.Ytifogeaamdiciaa
/-- The row, under a short name, for the claim. -/
theorem reuseGives_holds : Rows.ReuseGivesSaid := reuseGives.proved
end Go.Proofs.Ytifogeaamdiciaa
