-- Printed by wip/tools/myprint.py of this repo, over the kit's printer
import Derived.Test.YtifogeaamdiciaaRows
import Derived.Test.YtifogeaamdiciaaPBndx10
import Derived.Test.YtifogeaamdiciaaPureBoundGrows
import Derived.Test.YtifogeaamdiciaaOpens
import Derived.WalkKit
import Derived.ProofKit
import Derived.OpenShut
import Derived.ShutString
import Derived.ChangeOld
import Derived.Below
import Derived.SizedLaws
namespace Go.Proofs.Ytifogeaamdiciaa.boundGrows
open Go.ChangeShapes Go.WideShapes Go.ChangeAt Go.RowKit Go.Proofs.Ytifogeaamdiciaa.PBnd Go.Proofs.Ytifogeaamdiciaa.Opens Go.Proofs.YtifogeaamdiciaaW.PrintWords Go.Proofs.YtifogeaamdiciaaW.PrintLast
open Go.ChangeMaps (open_string shut_string)
set_option linter.unusedVariables false
theorem own : ownKnob Try.prog.godebug = none := by kernel_rfl
theorem laidOut : laidOutB Try.prog = true := by kernel_rfl
theorem o28 : Opens Try.prog 28 k28 (fun x => Wf28 x) :=
  (((Opens.struct Try.underlying28 (by kernel_rfl) (OpensFs.cons rfl rfl (by kernel_rfl) (Opens.int Try.underlying3) (OpensFs.cons rfl rfl (by kernel_rfl) (Opens.int Try.underlying3) (OpensFs.cons rfl rfl (by kernel_rfl) (Opens.int Try.underlying3) (OpensFs.cons rfl rfl (by kernel_rfl) (Opens.int Try.underlying3) (OpensFs.one rfl rfl (by kernel_rfl) (Opens.int Try.underlying3))))))).iso (fun x : S28 => (x.f0, x.f1, x.f2, x.f3, x.f4)) (fun p => ⟨p.1, p.2.1, p.2.2.1, p.2.2.2.1, p.2.2.2.2⟩) (fun _ => rfl))).mono (fun x h => by first | exact ⟨h.1, h.2.1, h.2.2.1, h.2.2.2.1, h.2.2.2.2⟩ | exact ⟨by simpa using h⟩)
set_option maxRecDepth 100000 in
theorem lifted (os : Os) (started : os.Started) (H : Type) (enc : TypeId × Value → H) :
    ReturnsInHanded {} Try.checked os 6 .any (Rows.boundGrowsSpec.pre6 enc Try.prog Try.f6 Rows.boundGrowsRow.domain false) (Rows.boundGrowsSpec.post enc Try.prog Try.f6 false true false false) := by
  refine returnsInHanded_of_change_sized (C := Try.checked) own started (by kernel_rfl) Try.func6
    (ChangeSpec.witness6 (enc := enc) (C := Try.checked) false ⟨#[], #[.agg #[.int .i64 0, .int .i64 0, .int .i64 0, .int .i64 0, .int .i64 0], .int .i64 0], []⟩ 8 (by kernel_rfl) (by kernel_rfl) (by kernel_rfl) (by kernel_rfl)) ?_
  intro W base args ds gs before hval0 hW hcnd hsz0 _
  have hsz : (DataW.weightsEach Try.prog (Try.f6.params.toList ++ Rows.boundGrowsSpec.plain.varTypes Try.prog) (ds ++ gs)).all (· ≤ reachBytes) = true := hsz0
  have hval : ∀ (j : Nat) t v, Try.f6.params[j]? = some t → args[j]? = some v → Value.okWide Try.prog W .any base t v := hval0
  have hW' := hW
  obtain ⟨p, q, hA0, hV, rfl, hfz, hnd⟩ := hW
  have hA : DataW.TrodAll enc Try.prog W 0 (fun _ => true) true Try.f6.params.toList args.toList ds p := hA0
  rw [Try.params6] at hA hval hsz
  obtain ⟨v0, vs0, d0, ds0, p0, q0, hargs, rfl, rfl, h0, r0⟩ := trodAll_cons hA
  obtain ⟨v1, vs1, d1, ds1, p1, q1, rfl, rfl, rfl, h1, r1⟩ := trodAll_cons r0
  obtain ⟨rfl, rfl, rfl⟩ := trodAll_nil r1
  obtain rfl : args = #[v0, v1] := by cases args; simp_all
  obtain ⟨rfl, rfl⟩ := trodVars_none hV
  have k0 := h0
  have lt0 : ∀ x ∈ p0, x.block < W.heap.size := by obtain ⟨m, hm⟩ := k0; exact DataW.trod_lt m _ _ _ hm
  obtain ⟨cs0, rfl, hcs0⟩ := okWide_struct Try.underlying28 (hval 0 28 v0 rfl rfl)
  obtain ⟨x0, hk0, hx0⟩ : ∃ x, k28.K W x (Value.cells (.agg cs0)).toList ∧ (fun a_ : S28 => Wf28 a_) x := by
    obtain ⟨fuel, hf⟩ := h0
    exact o28 H enc W 0 (fun _ => true) true fuel _ _ hf (weights_le hsz (j := 0) (t := 28) rfl rfl)
  have hcs0 := k28_open hk0
  obtain rfl : cs0 = #[.int .i64 x0.f0, .int .i64 x0.f1, .int .i64 x0.f2, .int .i64 x0.f3, .int .i64 x0.f4] := Array.toList_inj.1 hcs0
  obtain ⟨x1, rfl, rfl, rfl, w1⟩ := open_int Try.underlying3 (hval 1 3 v1 rfl rfl) h1
  clear hA0 hval0 hsz0 hsz
  obtain ⟨k, hpure⟩ := Pure.BoundGrows x0 x1 hx0 w1
  refine (tendrillaw20_BoundGrows.calls k x0.f0 x0.f1 x0.f2 x0.f3 x0.f4 x1 true W  hpure).mono fun e W' ⟨he, bel0⟩ => ?_
  have bel : Below W.heap.size W W' := bel0
  subst he
  exact ⟨_, rfl, _, _, _, [], _, [], hW', trodAll_mk1 (shut_bool Try.underlying4 _), (trodAll_cons_mk (Below.trod laidOut (by kernel_rfl) (of_decide_eq_true (by kernel_rfl)) k0 bel lt0) (trodAll_cons_mk (shut_int Try.underlying3 w1) trodAll_mk0)), rfl, bel.frame _, fun h => by cases h⟩
theorem over : Rows.boundGrowsRow.holds Try.pinned (OpenSpec.ofChange Rows.boundGrowsSpec) :=
  OpenClaim.holds_of_wide 6 Try.f6 rfl rfl rfl rfl rfl rfl rfl ⟨rfl, rfl, rfl, rfl, rfl⟩ rfl rfl rfl rfl rfl (by kernel_rfl) Try.func6 (by kernel_rfl)
    (of_decide_eq_true (by kernel_rfl)) (by unfold Func.isWrapper; first | (rw [if_pos (by decide +kernel)]; kernel_rfl) | (rw [if_neg (by decide +kernel)]; exact ⟨rfl, rfl⟩))
    (fun os started H enc _ => lifted os started H enc)
theorem proved : Rows.BoundGrowsSaid := over
#print axioms proved
end Go.Proofs.Ytifogeaamdiciaa.boundGrows
namespace Go.Proofs.Ytifogeaamdiciaa
/-- The row, under a short name, for the claim. -/
theorem boundGrows_holds : Rows.BoundGrowsSaid := boundGrows.proved
end Go.Proofs.Ytifogeaamdiciaa
