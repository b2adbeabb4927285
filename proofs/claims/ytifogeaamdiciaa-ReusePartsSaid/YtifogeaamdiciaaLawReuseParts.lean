-- Printed by wip/tools/myprint.py of this repo, over the kit's printer
import Derived.Test.YtifogeaamdiciaaRows
import Derived.Test.YtifogeaamdiciaaPReux16
import Derived.Test.YtifogeaamdiciaaPureReuseParts
import Derived.Test.YtifogeaamdiciaaOpens
import Derived.WalkKit
import Derived.ProofKit
import Derived.OpenShut
import Derived.ShutString
import Derived.ChangeOld
import Derived.Below
import Derived.SizedLaws
namespace Go.Proofs.Ytifogeaamdiciaa.reuseParts
open Go.ChangeShapes Go.WideShapes Go.ChangeAt Go.RowKit Go.Proofs.Ytifogeaamdiciaa.PReu Go.Proofs.Ytifogeaamdiciaa.Opens Go.Proofs.YtifogeaamdiciaaW.PrintWords Go.Proofs.YtifogeaamdiciaaW.PrintLast
open Go.ChangeMaps (open_string shut_string)
set_option linter.unusedVariables false
theorem own : ownKnob Try.prog.godebug = none := by kernel_rfl
theorem laidOut : laidOutB Try.prog = true := by kernel_rfl
theorem o60 : Opens Try.prog 60 k60 (fun x => Wf60 x) :=
  (((Opens.struct Try.underlying60 (by kernel_rfl) (OpensFs.cons rfl rfl (by kernel_rfl) (Opens.int Try.underlying3) (OpensFs.cons rfl rfl (by kernel_rfl) (Opens.int Try.underlying3) (OpensFs.cons rfl rfl (by kernel_rfl) (Opens.int Try.underlying3) (OpensFs.cons rfl rfl (by kernel_rfl) (Opens.int Try.underlying3) (OpensFs.cons rfl rfl (by kernel_rfl) (Opens.int Try.underlying3) (OpensFs.cons rfl rfl (by kernel_rfl) (Opens.int Try.underlying3) (OpensFs.cons rfl rfl (by kernel_rfl) (Opens.int Try.underlying3) (OpensFs.one rfl rfl (by kernel_rfl) (Opens.bool Try.underlying4)))))))))).iso (fun x : S60 => (x.f0, x.f1, x.f2, x.f3, x.f4, x.f5, x.f6, x.f7)) (fun p => ⟨p.1, p.2.1, p.2.2.1, p.2.2.2.1, p.2.2.2.2.1, p.2.2.2.2.2.1, p.2.2.2.2.2.2.1, p.2.2.2.2.2.2.2⟩) (fun _ => rfl))).mono (fun x h => by first | exact ⟨h.1, h.2.1, h.2.2.1, h.2.2.2.1, h.2.2.2.2.1, h.2.2.2.2.2.1, h.2.2.2.2.2.2.1⟩ | exact ⟨by simpa using h⟩)
set_option maxRecDepth 100000 in
theorem lifted (os : Os) (started : os.Started) (H : Type) (enc : TypeId × Value → H) :
    ReturnsInHanded {} Try.checked os 8 .any (Rows.reusePartsSpec.pre6 enc Try.prog Try.f8 Rows.reusePartsRow.domain false) (Rows.reusePartsSpec.post enc Try.prog Try.f8 false true false false) := by
  refine returnsInHanded_of_change_sized (C := Try.checked) own started (by kernel_rfl) Try.func8
    (ChangeSpec.witness6 (enc := enc) (C := Try.checked) false ⟨#[], #[.slice none 0 0, .slice none 0 0, .int .i64 0], []⟩ 8 (by kernel_rfl) (by kernel_rfl) (by kernel_rfl) (by kernel_rfl)) ?_
  intro W base args ds gs before hval0 hW hcnd hsz0 _
  have hsz : (DataW.weightsEach Try.prog (Try.f8.params.toList ++ Rows.reusePartsSpec.plain.varTypes Try.prog) (ds ++ gs)).all (· ≤ reachBytes) = true := hsz0
  have hval : ∀ (j : Nat) t v, Try.f8.params[j]? = some t → args[j]? = some v → Value.okWide Try.prog W .any base t v := hval0
  have hW' := hW
  obtain ⟨p, q, hA0, hV, rfl, hfz, hnd⟩ := hW
  have hA : DataW.TrodAll enc Try.prog W 0 (fun _ => true) true Try.f8.params.toList args.toList ds p := hA0
  rw [Try.params8] at hA hval hsz
  obtain ⟨v0, vs0, d0, ds0, p0, q0, hargs, rfl, rfl, h0, r0⟩ := trodAll_cons hA
  obtain ⟨v1, vs1, d1, ds1, p1, q1, rfl, rfl, rfl, h1, r1⟩ := trodAll_cons r0
  obtain ⟨v2, vs2, d2, ds2, p2, q2, rfl, rfl, rfl, h2, r2⟩ := trodAll_cons r1
  obtain ⟨rfl, rfl, rfl⟩ := trodAll_nil r2
  obtain rfl : args = #[v0, v1, v2] := by cases args; simp_all
  obtain ⟨rfl, rfl⟩ := trodVars_none hV
  have k0 := h0
  have lt0 : ∀ x ∈ p0, x.block < W.heap.size := by obtain ⟨m, hm⟩ := k0; exact DataW.trod_lt m _ _ _ hm
  obtain ⟨aa0, len0, cap0, rfl⟩ := okWide_slice Try.underlying35 (hval 0 35 v0 rfl rfl)
  obtain ⟨x0, hk0, hx0⟩ : ∃ x, (Kd.slice 60 k60).K W x (Value.cells (.slice aa0 len0 cap0)).toList ∧ (fun a_ : List (S60) => a_.length ≤ maxLen ∧ a_.length * 64 ≤ 140737488351232 ∧ (∀ e_0 ∈ a_, Wf60 e_0)) x := by
    obtain ⟨fuel, hf⟩ := h0
    exact (Opens.slice (B := 64) Try.underlying35 (by kernel_rfl) (by kernel_rfl) o60) H enc W 0 (fun _ => true) true fuel _ _ hf (weights_le hsz (j := 0) (t := 35) rfl rfl)
  obtain ⟨A0, c0, hcs0, hc0, hr0⟩ := hk0
  simp [Value.cells] at hcs0
  obtain ⟨rfl, rfl, rfl⟩ := hcs0
  have k1 := h1
  have lt1 : ∀ x ∈ p1, x.block < W.heap.size := by obtain ⟨m, hm⟩ := k1; exact DataW.trod_lt m _ _ _ hm
  obtain ⟨aa1, len1, cap1, rfl⟩ := okWide_slice Try.underlying35 (hval 1 35 v1 rfl rfl)
  obtain ⟨x1, hk1, hx1⟩ : ∃ x, (Kd.slice 60 k60).K W x (Value.cells (.slice aa1 len1 cap1)).toList ∧ (fun a_ : List (S60) => a_.length ≤ maxLen ∧ a_.length * 64 ≤ 140737488351232 ∧ (∀ e_0 ∈ a_, Wf60 e_0)) x := by
    obtain ⟨fuel, hf⟩ := h1
    exact (Opens.slice (B := 64) Try.underlying35 (by kernel_rfl) (by kernel_rfl) o60) H enc W 0 (fun _ => true) true fuel _ _ hf (weights_le hsz (j := 1) (t := 35) rfl rfl)
  obtain ⟨A1, c1, hcs1, hc1, hr1⟩ := hk1
  simp [Value.cells] at hcs1
  obtain ⟨rfl, rfl, rfl⟩ := hcs1
  obtain ⟨x2, rfl, rfl, rfl, w2⟩ := open_int Try.underlying3 (hval 2 3 v2 rfl rfl) h2
  clear hA0 hval0 hsz0 hsz
  obtain ⟨k, hpure⟩ := Pure.ReuseParts x0 x1 x2 hx0 hx1 w2
  refine (tendrillaw23_ReuseParts.calls k _ _ x0 _ _ x1 x2 true W hr0 hc0 hr1 hc1 hpure).mono fun e W' ⟨he, bel0⟩ => ?_
  have bel : Below W.heap.size W W' := bel0
  subst he
  exact ⟨_, rfl, _, _, _, [], _, [], hW', trodAll_mk1 (shut_bool Try.underlying4 _), (trodAll_cons_mk (Below.trod laidOut (by kernel_rfl) (of_decide_eq_true (by kernel_rfl)) k0 bel lt0) (trodAll_cons_mk (Below.trod laidOut (by kernel_rfl) (of_decide_eq_true (by kernel_rfl)) k1 bel lt1) (trodAll_cons_mk (shut_int Try.underlying3 w2) trodAll_mk0))), rfl, bel.frame _, fun h => by cases h⟩
theorem over : Rows.reusePartsRow.holds Try.pinned (OpenSpec.ofChange Rows.reusePartsSpec) :=
  OpenClaim.holds_of_wide 8 Try.f8 rfl rfl rfl rfl rfl rfl rfl ⟨rfl, rfl, rfl, rfl, rfl⟩ rfl rfl rfl rfl rfl (by kernel_rfl) Try.func8 (by kernel_rfl)
    (of_decide_eq_true (by kernel_rfl)) (by unfold Func.isWrapper; first | (rw [if_pos (by decide +kernel)]; kernel_rfl) | (rw [if_neg (by decide +kernel)]; exact ⟨rfl, rfl⟩))
    (fun os started H enc _ => lifted os started H enc)
theorem proved : Rows.ReusePartsSaid := over
#print axioms proved
end Go.Proofs.Ytifogeaamdiciaa.reuseParts
namespace Go.Proofs.Ytifogeaamdiciaa
/-- The row, under a short name, for the claim. -/
theorem reuseParts_holds : Rows.ReusePartsSaid := reuseParts.proved
end Go.Proofs.Ytifogeaamdiciaa
