-- Printed by wip/tools/myprint.py of this repo, over the kit's printer
import Derived.Test.YtifogeaamdiciaaRows
import Derived.Test.YtifogeaamdiciaaPBndx9
import Derived.Test.YtifogeaamdiciaaPureBoundTells
import Derived.Test.YtifogeaamdiciaaOpens
import Derived.WalkKit
import Derived.ProofKit
import Derived.OpenShut
import Derived.ShutString
import Derived.ChangeOld
import Derived.Below
import Derived.SizedLaws
namespace Go.Proofs.Ytifogeaamdiciaa.boundTells
open Go.ChangeShapes Go.WideShapes Go.ChangeAt Go.RowKit Go.Proofs.Ytifogeaamdiciaa.PBnd Go.Proofs.Ytifogeaamdiciaa.Opens Go.Proofs.YtifogeaamdiciaaW.PrintWords Go.Proofs.YtifogeaamdiciaaW.PrintLast
open Go.ChangeMaps (open_string shut_string)
set_option linter.unusedVariables false
theorem own : ownKnob Try.prog.godebug = none := by kernel_rfl
theorem laidOut : laidOutB Try.prog = true := by kernel_rfl
theorem o28 : Opens Try.prog 28 k28 (fun x => Wf28 x) :=
  (((Opens.struct Try.underlying28 (by kernel_rfl) (OpensFs.cons rfl rfl (by kernel_rfl) (Opens.int Try.underlying3) (OpensFs.cons rfl rfl (by kernel_rfl) (Opens.int Try.underlying3) (OpensFs.cons rfl rfl (by kernel_rfl) (Opens.int Try.underlying3) (OpensFs.cons rfl rfl (by kernel_rfl) (Opens.int Try.underlying3) (OpensFs.one rfl rfl (by kernel_rfl) (Opens.int Try.underlying3))))))).iso (fun x : S28 => (x.f0, x.f1, x.f2, x.f3, x.f4)) (fun p => ⟨p.1, p.2.1, p.2.2.1, p.2.2.2.1, p.2.2.2.2⟩) (fun _ => rfl))).mono (fun x h => by first | exact ⟨h.1, h.2.1, h.2.2.1, h.2.2.2.1, h.2.2.2.2⟩ | exact ⟨by simpa using h⟩)
set_option maxRecDepth 100000 in
theorem lifted (os : Os) (started : os.Started) (H : Type) (enc : TypeId × Value → H) :
    ReturnsInHanded {} Try.checked os 5 .any (Rows.boundTellsSpec.pre6 enc Try.prog Try.f5 Rows.boundTellsRow.domain false) (Rows.boundTellsSpec.post enc Try.prog Try.f5 false true false false) := by
  refine returnsInHanded_of_change_sized (C := Try.checked) own started (by kernel_rfl) Try.func5
    (ChangeSpec.witness6 (enc := enc) (C := Try.checked) false ⟨#[], #[.agg #[.int .i64 0, .int .i64 0, .int .i64 0, .int .i64 0, .int .i64 0], .int .i64 0, .slice none 0 0, .int .i64 0], []⟩ 8 (by kernel_rfl) (by kernel_rfl) (by kernel_rfl) (by kernel_rfl)) ?_
  intro W base args ds gs before hval0 hW hcnd hsz0 _
  have hsz : (DataW.weightsEach Try.prog (Try.f5.params.toList ++ Rows.boundTellsSpec.plain.varTypes Try.prog) (ds ++ gs)).all (· ≤ reachBytes) = true := hsz0
  have hval : ∀ (j : Nat) t v, Try.f5.params[j]? = some t → args[j]? = some v → Value.okWide Try.prog W .any base t v := hval0
  have hW' := hW
  obtain ⟨p, q, hA0, hV, rfl, hfz, hnd⟩ := hW
  have hA : DataW.TrodAll enc Try.prog W 0 (fun _ => true) true Try.f5.params.toList args.toList ds p := hA0
  rw [Try.params5] at hA hval hsz
  obtain ⟨v0, vs0, d0, ds0, p0, q0, hargs, rfl, rfl, h0, r0⟩ := trodAll_cons hA
  obtain ⟨v1, vs1, d1, ds1, p1, q1, rfl, rfl, rfl, h1, r1⟩ := trodAll_cons r0
  obtain ⟨v2, vs2, d2, ds2, p2, q2, rfl, rfl, rfl, h2, r2⟩ := trodAll_cons r1
  obtain ⟨v3, vs3, d3, ds3, p3, q3, rfl, rfl, rfl, h3, r3⟩ := trodAll_cons r2
  obtain ⟨rfl, rfl, rfl⟩ := trodAll_nil r3
  obtain rfl : args = #[v0, v1, v2, v3] := by cases args; simp_all
  obtain ⟨rfl, rfl⟩ := trodVars_none hV
  have k0 := h0
  have lt0 : ∀ x ∈ p0, x.block < W.heap.size := by obtain ⟨m, hm⟩ := k0; exact DataW.trod_lt m _ _ _ hm
  obtain ⟨cs0, rfl, hcs0⟩ := okWide_struct Try.underlying28 (hval 0 28 v0 rfl rfl)
  obtain ⟨x0, hk0, hx0⟩ : ∃ x, k28.K W x (Value.cells (.agg cs0)).toList ∧ (fun a_ : S28 => Wf28 a_) x := by
    obtain ⟨fuel, hf⟩ := h0
    exact o28 H enc W 0 (fun _ => true) true fuel _ _ hf (weights_le hsz (j := 0) (t := 28) rfl rfl)
  have hcs0 := k28_open hk0
  obtain rfl : cs0 = #[.int .i64 x0.f0, .int .i64 x0.f1, .int .i64 x0.f2, .int .i64 x0.f3, .int .i64 x0.f4] := Array.toList_inj.1 hcs0
  obtain ⟨x1, rfl, rfl, rfl, w1⟩ := open_int Try.underlying3 (hval 1 3 v1 rfl rfl) h1
  have k2 := h2
  have lt2 : ∀ x ∈ p2, x.block < W.heap.size := by obtain ⟨m, hm⟩ := k2; exact DataW.trod_lt m _ _ _ hm
  obtain ⟨aa2, len2, cap2, rfl⟩ := okWide_slice Try.underlying22 (hval 2 22 v2 rfl rfl)
  obtain ⟨x2, hk2, hx2⟩ : ∃ x, (Kd.slice 3 (Kd.int .i64)).K W x (Value.cells (.slice aa2 len2 cap2)).toList ∧ (fun a_ : List Int => a_.length ≤ maxLen ∧ a_.length * 8 ≤ 140737488351232 ∧ (∀ e_0 ∈ a_, (Lit.int .i64 e_0).wf = true)) x := by
    obtain ⟨fuel, hf⟩ := h2
    exact (Opens.slice (B := 8) Try.underlying22 (by kernel_rfl) (by kernel_rfl) (Opens.int Try.underlying3)) H enc W 0 (fun _ => true) true fuel _ _ hf (weights_le hsz (j := 2) (t := 22) rfl rfl)
  obtain ⟨A2, c2, hcs2, hc2, hr2⟩ := hk2
  simp [Value.cells] at hcs2
  obtain ⟨rfl, rfl, rfl⟩ := hcs2
  obtain ⟨x3, rfl, rfl, rfl, w3⟩ := open_int Try.underlying3 (hval 3 3 v3 rfl rfl) h3
  clear hA0 hval0 hsz0 hsz
  obtain ⟨k, hpure⟩ := Pure.BoundTells x0 x1 x2 x3 hx0 w1 hx2 w3
  refine (tendrillaw20_BoundTells.calls k x0.f0 x0.f1 x0.f2 x0.f3 x0.f4 x1 _ _ x2 x3 true W hr2 hc2 hpure).mono fun e W' ⟨he, bel0⟩ => ?_
  have bel : Below W.heap.size W W' := bel0
  subst he
  exact ⟨_, rfl, _, _, _, [], _, [], hW', trodAll_mk1 (shut_bool Try.underlying4 _), (trodAll_cons_mk (Below.trod laidOut (by kernel_rfl) (of_decide_eq_true (by kernel_rfl)) k0 bel lt0) (trodAll_cons_mk (shut_int Try.underlying3 w1) (trodAll_cons_mk (Below.trod laidOut (by kernel_rfl) (of_decide_eq_true (by kernel_rfl)) k2 bel lt2) (trodAll_cons_mk (shut_int Try.underlying3 w3) trodAll_mk0)))), rfl, bel.frame _, fun h => by cases h⟩
theorem over : Rows.boundTellsRow.holds Try.pinned (OpenSpec.ofChange Rows.boundTellsSpec) :=
  OpenClaim.holds_of_wide 5 Try.f5 rfl rfl rfl rfl rfl rfl rfl ⟨rfl, rfl, rfl, rfl, rfl⟩ rfl rfl rfl rfl rfl (by kernel_rfl) Try.func5 (by kernel_rfl)
    (of_decide_eq_true (by kernel_rfl)) (by unfold Func.isWrapper; first | (rw [if_pos (by decide +kernel)]; kernel_rfl) | (rw [if_neg (by decide +kernel)]; exact ⟨rfl, rfl⟩))
    (fun os started H enc _ => lifted os started H enc)
theorem proved : Rows.BoundTellsSaid := over
#print axioms proved
end Go.Proofs.Ytifogeaamdiciaa.boundTells
namespace Go.Proofs.Ytifogeaamdiciaa
/-- The row, under a short name, for the claim. -/
theorem boundTells_holds : Rows.BoundTellsSaid := boundTells.proved
end Go.Proofs.Ytifogeaamdiciaa
