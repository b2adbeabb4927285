/- For every input: TurnApart answers true, and its input reads as it did. -/
import Derived.Test.YthcfkplfmjcmoaaGreatDoorTie
import Derived.Test.YthcfkplfmjcmoaaGreatDoorCards
import Derived.Test.YthcfkplfmjcmoaaGreatDoorQ17
import Derived.Test.YthcfkplfmjcmoaaGreatDoorQ39
import Derived.WalkKit
import Derived.ProofKit
import Derived.OpenShut
import Derived.ShutString
import Derived.ChangeOld
import Derived.Below
import Derived.SizedLaws
import Derived.SevenTiedAt
namespace Go.Proofs.YthcfkplfmjcmoaaGreatDoor.turnApart
open Go Go.ChangeShapes Go.WideShapes Go.ChangeAt Go.RowKit Go.Ax Go.Ax.Cd
set_option linter.unusedVariables false
theorem own : ownKnob Tryz.prog.godebug = none := by kernel_rfl
theorem laidOut : laidOutB Tryz.prog = true := by kernel_rfl
abbrev laidL : List (String × DataW Unit) := [("tendril/code.sides", Rows.laid_tendril_code_sides)]
theorem door_met (os : Os) (args : Array Value) : laidMetH Tryz.prog laidL ((World.doorLaid Tryz.prog 16 os).forCall (fun _ _ => 0) ⟨#[], args, []⟩).memory :=
 laidMetH_of_parts3 (fuel := 8) (laidMet_of_run' 8 (by kernel_rfl) (by kernel_rfl)) (by kernel_rfl) (by kernel_rfl)
set_option maxRecDepth 100000 in
theorem lifted (os : Os) (started : os.Started) (H : Type) (enc : TypeId × Value → H) :
  ReturnsInHanded {} Tryz.checked os 5 .any (fun w args => (Rows.turnApartSpec.pre enc Tryz.prog Tryz.f5 [] false w args ∧ laidMetH Tryz.prog laidL w) ∧ sizedMet enc Tryz.prog Tryz.f5 (OpenSpec.ofChange Rows.turnApartSpec) false w args)
   (Rows.turnApartSpec.post enc Tryz.prog Tryz.f5 false true false false) := by
 refine returnsInHanded_of_change_and (C := Tryz.checked) (X := fun w _ => laidMetH Tryz.prog laidL w) (fun _ _ _ hh h => h.of_heap hh) own started (by kernel_rfl) Tryz.func5
  (ChangeSpec.witness_shaped (enc := enc) (C := Tryz.checked) (os := os) (X := fun w _ => laidMetH Tryz.prog laidL w) false (World.doorLaid Tryz.prog 16 os) #[.agg #[.int .i64 0, .int .i64 0, .int .i64 0, .int .i64 0, .int .i64 0], .slice none 0 0, .slice none 0 0] 8 rfl (World.shaped_of_RefB (by kernel_rfl) (by kernel_rfl)) (by kernel_rfl) (by kernel_rfl) (by kernel_rfl) (door_met os _)) ?_
 intro W base args ds gs before hval0 hW _ hsz0 hL _
 have hsz : (DataW.weightsEach Tryz.prog (Tryz.f5.params.toList ++ Rows.turnApartSpec.plain.varTypes Tryz.prog) (ds ++ gs)).all (· ≤ reachBytes) = true := hsz0
 clear hsz0
 have hval : ∀ (j : Nat) t v, Tryz.f5.params[j]? = some t → args[j]? = some v → Value.okWide Tryz.prog W .any base t v := hval0
 have hW' := hW
 obtain ⟨p, q, hA0, hV, rfl, hfz, hnd⟩ := hW
 have hA : DataW.TrodAll enc Tryz.prog W 0 (fun _ => true) true Tryz.f5.params.toList args.toList ds p := hA0
 rw [Tryz.params5] at hA hval hsz
 obtain ⟨v0, vs0, d0, ds0, p0, q0, hargs, rfl, rfl, h0, r0⟩ := trodAll_cons hA
 obtain ⟨v1, vs1, d1, ds1, p1, q1, rfl, rfl, rfl, h1, r1⟩ := trodAll_cons r0
 obtain ⟨v2, vs2, d2, ds2, p2, q2, rfl, rfl, rfl, h2, r2⟩ := trodAll_cons r1
 obtain ⟨rfl, rfl, rfl⟩ := trodAll_nil r2
 obtain rfl : args = #[v0, v1, v2] := by cases args; simp_all
 obtain ⟨rfl, rfl⟩ := trodVars_none hV
 have k0 := h0
 have lt0 : ∀ x ∈ p0, x.block < W.heap.size := by obtain ⟨m, hm⟩ := k0; exact DataW.trod_lt m _ _ _ hm
 have wt0 : ∀ m ∈ d0.weights Tryz.prog 23, m ≤ reachBytes := fun m hm => of_decide_eq_true (List.all_eq_true.1 hsz m (DataW.weights_mem_each (j := 0) (t := 23) (d := d0) rfl rfl m hm))
 obtain ⟨cs0, rfl, hcs0⟩ := okWide_struct Tryz.underlying23 (hval 0 23 v0 rfl rfl)
 obtain ⟨x0, hx0, w0⟩ : ∃ x : Cfg, Rd W (Old W) (.st .cfg) x cs0.toList ∧ True := by
  obtain ⟨fuel, hf⟩ := h0
  exact OpW.of oCfg H enc W true fuel _ _ hf wt0
 have k1 := h1
 have lt1 : ∀ x ∈ p1, x.block < W.heap.size := by obtain ⟨m, hm⟩ := k1; exact DataW.trod_lt m _ _ _ hm
 have wt1 : ∀ m ∈ d1.weights Tryz.prog 53, m ≤ reachBytes := fun m hm => of_decide_eq_true (List.all_eq_true.1 hsz m (DataW.weights_mem_each (j := 1) (t := 53) (d := d1) rfl rfl m hm))
 obtain ⟨a1, len1, cap1, rfl⟩ := okWide_slice Tryz.underlying53 (hval 1 53 v1 rfl rfl)
 obtain ⟨x1, hx1, w1⟩ : ∃ x : List (List Opn), Rd W (Old W) (.sl (.sl (.st .opn))) x [.slice a1 len1 cap1] ∧ (x.length ≤ reachBytes ∧ ∀ y ∈ x, y.length ≤ reachBytes ∧ ∀ z ∈ y, OpWf z) := by
  obtain ⟨fuel, hf⟩ := h1
  exact wOps H enc W true fuel _ _ hf wt1
 have k2 := h2
 have lt2 : ∀ x ∈ p2, x.block < W.heap.size := by obtain ⟨m, hm⟩ := k2; exact DataW.trod_lt m _ _ _ hm
 have wt2 : ∀ m ∈ d2.weights Tryz.prog 24, m ≤ reachBytes := fun m hm => of_decide_eq_true (List.all_eq_true.1 hsz m (DataW.weights_mem_each (j := 2) (t := 24) (d := d2) rfl rfl m hm))
 obtain ⟨a2, len2, cap2, rfl⟩ := okWide_slice Tryz.underlying24 (hval 2 24 v2 rfl rfl)
 obtain ⟨x2, hx2, w2⟩ : ∃ x : List Int, Rd W (Old W) (.sl .int) x [.slice a2 len2 cap2] ∧ (x.length ≤ reachBytes ∧ ∀ y ∈ x, (Lit.int .i64 y).wf = true) := by
  obtain ⟨fuel, hf⟩ := h2
  exact bMs H enc W true fuel _ _ hf wt2
 clear hA0 hval0
 refine (aXb lApart_ok.s (x := (x0, x1, x2, ())) rfl (aEb (fun l hl o ho => (w1.2 l hl).2 o ho |>.2) (Nat.le_trans w1.1 aUr) (fun l hl => Nat.le_trans (w1.2 l hl).1 aUr)) (args := #[.agg cs0, .slice a1 len1 cap1, .slice a2 len2 cap2]) ⟨bMq hx0, by simpa only [VhL.enc, Vh.enc, Sh.enc, VR] using hx1, by simpa only [VhL.enc, Vh.enc, Sh.enc, VR] using hx2, trivial⟩ (bLf hL)).mono fun e W' ⟨he, bel⟩ =>?_
 subst he
 exact ⟨_, rfl, _, _, _, [], _, [], hW', trodAll_mk1 (shut_bool Tryz.underlying4 _), (trodAll_cons_mk (Below.trod laidOut (by kernel_rfl) (of_decide_eq_true (by kernel_rfl)) k0 bel lt0) (trodAll_cons_mk (Below.trod laidOut (by kernel_rfl) (of_decide_eq_true (by kernel_rfl)) k1 bel lt1) (trodAll_cons_mk (Below.trod laidOut (by kernel_rfl) (of_decide_eq_true (by kernel_rfl)) k2 bel lt2) trodAll_mk0))), rfl, bel.frame _, fun h => by cases h⟩
theorem band {a b : Bool} (h : a = true) (k : b = true) : (a && b) = true := by rw [h, k]; rfl
theorem j0 : mapsRowed Tryz.pinned.checked.prog = true := by kernel_rfl
theorem j1 : (Rows.turnApartRow.inPlace == Tryz.pinned.checked.prog.inPlace 5) = true := by kernel_rfl
theorem j2 : (Rows.turnApartRow.unfollowed == Tryz.pinned.checked.prog.unfollowed 5) = true := by kernel_rfl
theorem j3 : (Rows.turnApartRow.recurses == Tryz.pinned.checked.prog.recurses 5) = true := by kernel_rfl
theorem j4 : (Rows.turnApartRow.named == Tryz.pinned.checked.prog.varsNamed 5) = true := by kernel_rfl
theorem j5 : (Rows.turnApartRow.plainKeys == Tryz.pinned.checked.prog.plainKeys) = true := by kernel_rfl
theorem j6 : Tryz.pinned.checked.prog.stopsHeard = true := by kernel_rfl
theorem j7 : Tryz.pinned.checked.prog.mayEnter = true := by kernel_rfl
theorem j8 : (Rows.turnApartRow.lifted == Tryz.pinned.checked.prog.liftsFinal) = true := by kernel_rfl
theorem j9 : (Tryz.pinned.checked.prog.make == some Rows.turnApartRow.make) = true := by kernel_rfl
theorem closed : joinedFacts Tryz.pinned.checked.prog 5 Tryz.f5 Rows.turnApartSpec Rows.turnApartRow = true := by
 unfold joinedFacts
 repeat' (with_reducible refine band ?_ ?_)
 all_goals first | with_reducible exact j0 | with_reducible exact j1 | with_reducible exact j2 | with_reducible exact j3 | with_reducible exact j4 | with_reducible exact j5 | with_reducible exact j6 | with_reducible exact j7 | with_reducible exact j8 | with_reducible exact j9 | kernel_rfl
theorem fNamed : Tryz.prog.funcNamed "tendril/tendrillaw19.TurnApart" = some 5 := by kernel_rfl
theorem inst : Tryz.f5.isInstance Tryz.pinned.checked.prog Rows.turnApartRow.origin Rows.turnApartRow.targs := of_decide_eq_true (by kernel_rfl)
theorem wrap : Tryz.f5.isWrapper Tryz.pinned.checked.prog Rows.turnApartRow.wrapper Rows.turnApartRow.mainSum := by unfold Func.isWrapper; first | (rw [if_pos (by decide +kernel)]; kernel_rfl) | (rw [if_neg (by decide +kernel)]; exact ⟨rfl, rfl⟩)
theorem over : Rows.turnApartRow.holds Tryz.pinned (OpenSpec.ofChange Rows.turnApartSpec) :=
 OpenClaim.holds_of_wide 5 Tryz.f5 rfl rfl rfl rfl rfl rfl rfl ⟨rfl, rfl, rfl, rfl, rfl⟩ rfl rfl rfl rfl rfl fNamed Tryz.func5 closed inst wrap
  (fun os started H enc _ => lifted os started H enc)
theorem look : true = Tryz.pinned.checked.prog.looks [] := by kernel_rfl
theorem mainS : Tryz.pinned.checked.prog.mainIs = some (true, "64a4423e15158d649a6060101deb912315bfe951b5a28832eb3a2372a6184900".toList) := by kernel_rfl
theorem goes : false = Rows.turnApartRow.goesBy Tryz.pinned.checked.prog := by kernel_rfl
theorem wfText : Rows.turnApartRow.wfByText (OpenSpec.ofChange Rows.turnApartSpec) = true := by kernel_rfl
theorem card : Rows.TurnApartCardSaid :=
 Claim7.holds_tied_plain_at .later [] [.data] true (true, "64a4423e15158d649a6060101deb912315bfe951b5a28832eb3a2372a6184900") true
  over (fun _ h => by cases h) wfText (fun _ h => by cases h) turnApart_row_tie rfl ⟨rfl, rfl⟩ mainS rfl
  (fun f fn hf hfn => by
   obtain rfl : f = 5 := Option.some.inj (fNamed.symm.trans hf) |>.symm
   obtain rfl : fn = Tryz.f5 := (Option.some.inj (Tryz.func5.symm.trans hfn)).symm
   exact ⟨look, fun j t ht => by
    rw [Tryz.params5] at ht
    have hm : t ∈ [23, 53, 24] := by simpa using Array.mem_of_getElem? ht
    have hall : (([23, 53, 24] : List Nat).all fun u => !Tryz.prog.wantsStandIn u) = true := by kernel_rfl
    exact (show Tryz.prog.wantsStandIn t = false by simpa using List.all_eq_true.1 hall t hm)⟩)
  goes
end Go.Proofs.YthcfkplfmjcmoaaGreatDoor.turnApart
namespace Go.Proofs.YthcfkplfmjcmoaaGreatDoor
theorem turnApart_card : Rows.TurnApartCardSaid := turnApart.card
end Go.Proofs.YthcfkplfmjcmoaaGreatDoor
