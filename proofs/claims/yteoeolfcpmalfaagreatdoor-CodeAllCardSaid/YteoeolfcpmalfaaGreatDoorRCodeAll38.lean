/- For every input: CodeAll answers true, and its input reads as it did. -/
import Derived.Test.YteoeolfcpmalfaaGreatDoorTie
import Derived.Test.YteoeolfcpmalfaaGreatDoorCards
import Derived.Test.YteoeolfcpmalfaaGreatDoorQ16
import Derived.Test.YteoeolfcpmalfaaGreatDoorQ37
import Derived.WalkKit
import Derived.ProofKit
import Derived.OpenShut
import Derived.ShutString
import Derived.ChangeOld
import Derived.Below
import Derived.SizedLaws
import Derived.SevenTiedAt
namespace Go.Proofs.YteoeolfcpmalfaaGreatDoor.codeAll
open Go Go.ChangeShapes Go.WideShapes Go.ChangeAt Go.RowKit Go.Ax Go.Ax.Cd
set_option linter.unusedVariables false
theorem own : ownKnob Tryz.prog.godebug = none := by kernel_rfl
theorem laidOut : laidOutB Tryz.prog = true := by kernel_rfl
abbrev laidL : List (String × DataW Unit) := [("tendril/code.sides", Rows.laid_tendril_code_sides)]
theorem door_met (os : Os) (args : Array Value) : laidMetH Tryz.prog laidL ((World.doorLaid Tryz.prog 16 os).forCall (fun _ _ => 0) ⟨#[], args, []⟩).memory :=
 laidMetH_of_parts3 (fuel := 8) (laidMet_of_run' 8 (by kernel_rfl) (by kernel_rfl)) (by kernel_rfl) (by kernel_rfl)
set_option maxRecDepth 100000 in
theorem lifted (os : Os) (started : os.Started) (H : Type) (enc : TypeId × Value → H) :
  ReturnsInHanded {} Tryz.checked os 4 .any (fun w args => (Rows.codeAllSpec.pre enc Tryz.prog Tryz.f4 [] false w args ∧ laidMetH Tryz.prog laidL w) ∧ sizedMet enc Tryz.prog Tryz.f4 (OpenSpec.ofChange Rows.codeAllSpec) false w args)
   (Rows.codeAllSpec.post enc Tryz.prog Tryz.f4 false true false false) := by
 refine returnsInHanded_of_change_and (C := Tryz.checked) (X := fun w _ => laidMetH Tryz.prog laidL w) (fun _ _ _ hh h => h.of_heap hh) own started (by kernel_rfl) Tryz.func4
  (ChangeSpec.witness_shaped (enc := enc) (C := Tryz.checked) (os := os) (X := fun w _ => laidMetH Tryz.prog laidL w) false (World.doorLaid Tryz.prog 16 os) #[.agg #[.int .i64 0, .int .i64 0, .int .i64 0, .int .i64 0, .int .i64 0], .agg #[.int .i64 0, .int .i64 0, .int .i64 0, .int .i64 0, .int .i64 0], .slice none 0 0] 8 rfl (World.shaped_of_RefB (by kernel_rfl) (by kernel_rfl)) (by kernel_rfl) (by kernel_rfl) (by kernel_rfl) (door_met os _)) ?_
 intro W base args ds gs before hval0 hW _ _ hL _
 have hval : ∀ (j : Nat) t v, Tryz.f4.params[j]? = some t → args[j]? = some v → Value.okWide Tryz.prog W .any base t v := hval0
 have hW' := hW
 obtain ⟨p, q, hA0, hV, rfl, hfz, hnd⟩ := hW
 have hA : DataW.TrodAll enc Tryz.prog W 0 (fun _ => true) true Tryz.f4.params.toList args.toList ds p := hA0
 rw [Tryz.params4] at hA hval
 obtain ⟨v0, vs0, d0, ds0, p0, q0, hargs, rfl, rfl, h0, r0⟩ := trodAll_cons hA
 obtain ⟨v1, vs1, d1, ds1, p1, q1, rfl, rfl, rfl, h1, r1⟩ := trodAll_cons r0
 obtain ⟨v2, vs2, d2, ds2, p2, q2, rfl, rfl, rfl, h2, r2⟩ := trodAll_cons r1
 obtain ⟨rfl, rfl, rfl⟩ := trodAll_nil r2
 obtain rfl : args = #[v0, v1, v2] := by cases args; simp_all
 obtain ⟨rfl, rfl⟩ := trodVars_none hV
 have k0 := h0
 have k1 := h1
 have lt0 : ∀ x ∈ p0, x.block < W.heap.size := by obtain ⟨m, hm⟩ := k0; exact DataW.trod_lt m _ _ _ hm
 have lt1 : ∀ x ∈ p1, x.block < W.heap.size := by obtain ⟨m, hm⟩ := k1; exact DataW.trod_lt m _ _ _ hm
 obtain ⟨cs0, rfl, hcs0⟩ := okWide_struct Tryz.underlying23 (hval 0 23 v0 rfl rfl)
 obtain ⟨cs1, rfl, hcs1⟩ := okWide_struct Tryz.underlying25 (hval 1 25 v1 rfl rfl)
 obtain ⟨c, hc, _⟩ : ∃ c : Cfg, Rd W (Old W) (.st .cfg) c cs0.toList ∧ True := by
  obtain ⟨fuel, hf⟩ := h0
  exact oCfg H enc W 0 (fun _ => true) true fuel _ _ hf
 obtain ⟨o, ho, ow⟩ : ∃ o : Opn, Rd W (Old W) (.st .opn) o cs1.toList ∧ OpWf o := by
  obtain ⟨fuel, hf⟩ := h1
  exact oOp H enc W 0 (fun _ => true) true fuel _ _ hf
 have k2 := h2
 have lt2 : ∀ x ∈ p2, x.block < W.heap.size := by obtain ⟨m, hm⟩ := k2; exact DataW.trod_lt m _ _ _ hm
 obtain ⟨a2, len2, cap2, rfl⟩ := okWide_slice Tryz.underlying26 (hval 2 26 v2 rfl rfl)
 obtain ⟨got, hg, gl2, _, gw⟩ : ∃ xs : List Int, Rd W (Old W) (.sl .int) xs [.slice a2 len2 cap2] ∧ xs.length = len2 ∧ len2 ≤ maxLen ∧ ∀ x ∈ xs, (Lit.int .i64 x).wf = true := by
  obtain ⟨fuel, hf⟩ := h2
  exact slice_open (k := .int) Tryz.underlying26 c3 (OpE.int Tryz.underlying3) hf (slice_spot Tryz.underlying26 (hval 2 26 _ rfl rfl))
 clear hA0 hval0
 refine (law_calls lawAll_ok.s (x := (c, o, got, ())) rfl ((fun (hx : ∀ x ∈ got, In64 x) (ow : OpWf o) => lawAll_true hx ow.2.1 ow.2.2.1) (fun x hx => in64_of (gw x hx)) ow) (args := #[.agg cs0, .agg cs1, .slice a2 len2 cap2]) ⟨vr_st hc, vr_st ho, by simpa only [VhL.enc, Vh.enc, Sh.enc, VR] using hg, trivial⟩ (glo_of hL)).mono fun e W' ⟨he, bel⟩ =>?_
 subst he
 exact ⟨_, rfl, _, _, _, [], _, [], hW', trodAll_mk1 (shut_bool Tryz.underlying4 _), (trodAll_cons_mk (Below.trod laidOut (by kernel_rfl) (of_decide_eq_true (by kernel_rfl)) k0 bel lt0) (trodAll_cons_mk (Below.trod laidOut (by kernel_rfl) (of_decide_eq_true (by kernel_rfl)) k1 bel lt1) (trodAll_cons_mk (Below.trod laidOut (by kernel_rfl) (of_decide_eq_true (by kernel_rfl)) k2 bel lt2) trodAll_mk0))), rfl, bel.frame _, fun h => by cases h⟩
theorem over : Rows.codeAllRow.holds Tryz.pinned (OpenSpec.ofChange Rows.codeAllSpec) :=
 OpenClaim.holds_of_wide 4 Tryz.f4 rfl rfl rfl rfl rfl rfl rfl ⟨rfl, rfl, rfl, rfl, rfl⟩ rfl rfl rfl rfl rfl (by kernel_rfl) Tryz.func4 (by kernel_rfl)
  (of_decide_eq_true (by kernel_rfl)) (by unfold Func.isWrapper; first | (rw [if_pos (by decide +kernel)]; kernel_rfl) | (rw [if_neg (by decide +kernel)]; exact ⟨rfl, rfl⟩))
  (fun os started H enc _ => lifted os started H enc)
theorem card : Rows.CodeAllCardSaid :=
 Claim7.holds_tied_plain_at .later [] [.data] true (true, "a0336881c3c877d2b20788089af47d0ddd9dc5947998434b6220f6b9edd2ced8") true
  over (fun _ h => by cases h) (by kernel_rfl) (fun _ h => by cases h) codeAll_row_tie rfl ⟨rfl, rfl⟩ (by kernel_rfl) rfl
  (fun f fn hf hfn => by
   obtain rfl : f = 4 := Option.some.inj ((show Tryz.prog.funcNamed "tendril/tendrillaw17.CodeAll" = some 4 by kernel_rfl).symm.trans hf) |>.symm
   obtain rfl : fn = Tryz.f4 := (Option.some.inj (Tryz.func4.symm.trans hfn)).symm
   exact ⟨by kernel_rfl, fun j t ht => by
    rw [Tryz.params4] at ht
    have hm : t ∈ [23, 25, 26] := by simpa using Array.mem_of_getElem? ht
    have hall : (([23, 25, 26] : List Nat).all fun u => !Tryz.prog.wantsStandIn u) = true := by kernel_rfl
    exact (show Tryz.prog.wantsStandIn t = false by simpa using List.all_eq_true.1 hall t hm)⟩)
  (by kernel_rfl)
end Go.Proofs.YteoeolfcpmalfaaGreatDoor.codeAll
namespace Go.Proofs.YteoeolfcpmalfaaGreatDoor
theorem codeAll_card : Rows.CodeAllCardSaid := codeAll.card
end Go.Proofs.YteoeolfcpmalfaaGreatDoor
