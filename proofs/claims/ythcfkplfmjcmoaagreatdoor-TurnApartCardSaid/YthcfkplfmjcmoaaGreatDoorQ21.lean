/- Merged. -/
import Derived.Test.YthcfkplfmjcmoaaGreatDoorQ15
import Derived.Test.YthcfkplfmjcmoaaGreatDoorQ13
import Derived.RangeFuncLeaves
import Derived.RangeFuncCalls
import Derived.RangeFuncGives
import Derived.LoopNIn
import Derived.LoopIn
import Derived.TacticsInMore
import Derived.WalkKit
import Derived.OwnWalkIn
namespace Go
variable {F : Fence} {n : Nat} {P : Program}
def aQt (P : Program) (l : Nat) (R : Ending → World → Prop) : Exit → Act → World → Prop
 | .normal, _, w => ∃ v w', (Instr.endRound l none).run P w = .ok v w' ∧ R (.returned v) w'
 | .panic chain, a, w => a.defers = [] ∧ R (.panicked chain) w
 | _, _, _ => False
theorem nS {l : Nat} {f : FuncId} {fn : Func} {tmps : Array Value} {assign body : Code} {w : World} {R : Ending → World → Prop} (hF : F.fn f) (hfn : P.funcs[f]? = some fn)
  (h : assign.wpIn (F.inRound l) n P (Exit.then (fun a₁ w₁ => ∃ w₂, (Instr.beginRound l).run P w₁ = .ok () w₂ ∧ body.wpIn (F.inRound l) n P (aQt P l R) a₁ w₂) (fun _ _ _ => False))
   { tmps := tmps, defers := [] } w) :
  RoundIn F n P l f tmps assign body w R := by
 refine ⟨hF, fun c cs hr =>?_⟩
 let b : Frame := { (default : Frame) with fn := f, kind := .normal, roundOf := some l }
 have hb0 : Frame.round l f tmps assign body .normal = b.atR { tmps := tmps, defers := [] } [.code assign, .beginRound, .code body] := by
  simp [Frame.round, Frame.atR, b]
 have hr' : (F.inRound l).room ((c :: cs).length + 1 + n) := hr
 have hF' : (F.inRound l).fn b.fn := hF
 obtain ⟨e, a₁, w₁, hq, harr⟩ := h b [.beginRound, .code body] (c :: cs) rfl hF' hr'
 rw [← hb0] at harr
 cases e with
 | normal =>
  obtain ⟨w₂, hbr, hbody⟩ := hq
  have s1 : StepsIn (Machine.fenced P (F.inRound l)) P (lone (b.atR a₁ [.beginRound, .code body]) (c :: cs) w₁) (lone (b.atR a₁ [.code body]) (c :: cs) w₂) :=
   .one (fenced_calm (fr := b.atR a₁ [.beginRound, .code body]) hF' hr' rfl) (stepR_beginRound rfl hbr)
  obtain ⟨e₂, a₂, w₃, hq₂, harr₂⟩ := hbody b [] (c :: cs) rfl hF' hr'
  cases e₂ with
  | normal =>
   obtain ⟨v, w₄, hend, hR⟩ := hq₂
   exact ⟨.returned v, w₄, hR, (StepsIn.trans harr s1).trans (StepsIn.trans harr₂ (.one (fenced_calm (fr := b.atR a₂ []) hF' hr' rfl) (stepR_round_end rfl rfl hend)))⟩
  | panic chain =>
   obtain ⟨hd, hR⟩ := hq₂
   obtain ⟨todo, hs⟩ := harr₂
   have hl : ({ b.atR a₂ todo with mode := .panicking chain } : Frame).leaving P w₃ (.panicked chain) := ⟨rfl, hd, fn, hfn⟩
   exact ⟨.panicked chain, w₃, hR, (StepsIn.trans harr s1).trans (StepsIn.trans hs (.one (fenced_leaving (fr := { b.atR a₂ todo with mode := .panicking chain }) hF' hr' hl) (step_leave_panicked hl)))⟩
  | ret => exact hq₂.elim
  | exit id => exact hq₂.elim
  | goto t => exact hq₂.elim
  | outgrown => exact hq₂.elim
 | exit id => exact hq.elim
 | goto t => exact hq.elim
 | ret => exact hq.elim
 | panic chain => exact hq.elim
 | outgrown => exact hq.elim
def wpAt (g : FuncId) (P : Program) (c : Code) (Q : Exit → Act → World → Prop) (a : Act) (w : World) : Prop :=
 ∀ (b : Frame) (k : List Item) (cs : List Frame), b.roundOf = none → b.fn = g → ∃ e a' w', Q e a' w' ∧ ArrivesIn (Machine.fenced P Fence.wide) P (lone (b.atR a (.code c :: k)) cs w) b k cs e a' w'
section
variable {g : FuncId} {Q : Exit → Act → World → Prop} {a : Act} {w : World}
theorem oJ {c : Code} (h : c.wp P Q a w) : wpAt g P c Q a w := fun b k cs hro _ => (wpIn_wide (n := 0)).2 h b k cs hro trivial (room_wide _)
def nop (N : Act → World → Prop) (K : List PanicEntry → Act → World → Prop) : Exit → Act → World → Prop
 | .normal, a, w => N a w
 | .panic c, a, w => K c a w
 | _, _, _ => False
theorem mG {x y : Code} {N : Act → World → Prop} {K : List PanicEntry → Act → World → Prop} (h : wpAt g P x (nop N K) a w) (hn : ∀ a w, N a w → wpAt g P y Q a w) (hp : ∀ c a w, K c a w → Q (.panic c) a w) : wpAt g P (.seq x y) Q a w := by
 intro b k cs hro hb
 have s0 : StepsIn (Machine.fenced P Fence.wide) P (lone (b.atR a (.code (.seq x y) :: k)) cs w) (lone (b.atR a (.code x :: .code y :: k)) cs w) := .one (fenced_calm (n := 0) trivial (room_wide _) rfl) stepR_seq
 obtain ⟨e, a₁, w₁, hq, harr⟩ := h b (.code y :: k) cs hro hb
 cases e with
 | normal =>
  obtain ⟨e₂, a₂, w₂, hq₂, r₂⟩ := hn _ _ hq b k cs hro hb
  exact ⟨e₂, a₂, w₂, hq₂, .of_steps (s0.trans harr) r₂⟩
 | panic ch =>
  obtain ⟨todo, hs⟩ := harr
  exact ⟨.panic ch, a₁, w₁, hp _ _ _ hq, todo, s0.trans hs⟩
 | exit id => exact hq.elim
 | goto l => exact hq.elim
 | ret => exact hq.elim
 | outgrown => exact hq.elim
theorem aCn {i : Nat} {x : Code} {N : Act → World → Prop} {K : List PanicEntry → Act → World → Prop} (h : wpAt g P x (nop N K) a w) : wpAt g P (.block i x) (nop N K) a w := by
 intro b k cs hro hb
 have s0 : StepsIn (Machine.fenced P Fence.wide) P (lone (b.atR a (.code (.block i x) :: k)) cs w) (lone (b.atR a (.code x :: .inBlock i :: k)) cs w) := .one (fenced_calm (n := 0) trivial (room_wide _) rfl) stepR_block
 obtain ⟨e, a₁, w₁, hq, harr⟩ := h b (.inBlock i :: k) cs hro hb
 cases e with
 | normal => exact ⟨.normal, a₁, w₁, hq, s0.trans (StepsIn.trans harr (.one (fenced_calm (n := 0) trivial (room_wide _) rfl) stepR_inBlock))⟩
 | panic ch =>
  obtain ⟨todo, hs⟩ := harr
  exact ⟨.panic ch, a₁, w₁, hq, todo, s0.trans hs⟩
 | exit id => exact hq.elim
 | goto l => exact hq.elim
 | ret => exact hq.elim
 | outgrown => exact hq.elim
theorem qC {o : Operand} {ps : Array Tmp} {assign body : Code} {N : Act → World → Prop} {K : List PanicEntry → Act → World → Prop} {f : FuncId} {args : Array Value} {d : Deferred} {w₁ w₂ : World}
  (hw : w₁ = (w.alloc (.deferred (some []))).alloc (.loop { state := .ready, pending := none, fn := g, tmps := a.tmps, params := ps, assign, body, defers := w.heap.size }))
  (hres : (resolve a.eval (rangeCall o (w.heap.size + 1)) 0).run P w₁ = .ok d w₁) (hinv : (invoke d.target d.args).run P w₁ = .ok (.enter f args) w₂)
  (hc : Calls P f args w₂ fun e w₃ => match e with
   | .returned _ => ∃ w₄, (Instr.endLoop (w.heap.size + 1)).run P w₃ = .ok none w₄ ∧ N { a with defers := { target := .collected w.heap.size, args := #[] } :: a.defers } w₄
   | .panicked ch => K ch { a with defers := { target := .collected w.heap.size, args := #[] } :: a.defers } w₃
   | .outgrown => False) : wpAt g P (.rangeFunc o ps assign body) (nop N K) a w := by
 intro b k cs hro hb
 subst hw hb
 have he := run_enterLoop_outer (P := P) (w := w) b.fn a.tmps ps assign body
 rw [← hro] at he
 have s0 := stepR_rangeFunc (P := P) (b := b) (a := a) (k := k) (cs := cs) (w := w) he hres hinv
 have f0 : ∀ (fr : Frame) (cs : List Frame) (w : World), (lone fr cs w).fenced P Fence.wide := fun fr cs w => fenced_lone (.inl trivial) (fun _ _ => trivial) (room_wide _)
 obtain ⟨e, w₃, fr, hR, hs, hfn, hl⟩ := ((callsIn_wide (n := 0)).2 hc).2 (b.atR { a with defers := [{ target := .collected w.heap.size, args := #[] }] ++ a.defers } (.inRangeFunc (w.heap.size + 1) :: k) :: cs) (room_wide _)
 cases e with
 | outgrown => exact hR.elim
 | returned v =>
  obtain ⟨w₄, h1, h2⟩ := hR
  refine ⟨.normal, _, w₄, h2, .head (f0 _ _ _) s0 (StepsIn.trans hs (.head (f0 _ _ _) ?_ (.one (f0 _ _ _) (stepR_endRangeFunc h1))))⟩
  rw [← finish_atR_inRangeFunc (w.heap.size + 1) v]
  exact step_leave_returned hl
 | panicked ch =>
  refine ⟨.panic ch, _, w₃, hR, .inRangeFunc (w.heap.size + 1) :: k, .head (f0 _ _ _) s0 (StepsIn.trans hs (.one (f0 _ _ _) ?_))⟩
  rw [← Frame.raise_atR]
  exact step_leave_panicked hl
theorem aDp {fn : Func} {c : Code} {args : Array Value} {R : Ending → World → Prop} (hf : P.funcs[g]? = some fn) (hb : fn.body = some c)
  (h : wpAt g P c (fun e a w => match e with
   | .normal => ∃ D, a.defers = [{ target := .collected D, args := #[] }] ∧ ∃ w', (Instr.takeDeferred D).run P w = .ok [] w' ∧ ∃ v, (results fn a.tmps).run P w' = .ok v w' ∧ R (.returned v) w'
   | .panic ch => ∃ D, a.defers = [{ target := .collected D, args := #[] }] ∧ ∃ w', (Instr.takeDeferred D).run P w = .ok [] w' ∧ R (.panicked ch) w'
   | _ => False) { tmps := args ++ Array.replicate (fn.ntmps - args.size) undef, defers := [] } w) : Calls P g args w R := by
 refine (callsIn_wide (n := 0)).1 ⟨trivial, fun cs hr =>?_⟩
 let b : Frame := { (default : Frame) with fn := g, kind := .normal, roundOf := none }
 have henter : Frame.enter P g args .normal = b.atR { tmps := args ++ Array.replicate (fn.ntmps - args.size) undef, defers := [] } [.code c] := by
  simp [Frame.enter, Frame.atR, hf, hb, b]
 obtain ⟨e, a', w', hq, harr⟩ := h b [] cs rfl rfl
 rw [← henter] at harr
 cases e with
 | normal =>
  obtain ⟨D, hd, w₂, h1, h2⟩ := hq
  obtain ⟨e', w'', fr', hR, hs, hfn, hl⟩ := leaves_stepsInM (F := Fence.wide) (n := 0) (R := R) (tmps := a'.tmps) a'.defers .returning w' { b.atR a' [] with mode := .returning } cs rfl rfl rfl hf rfl trivial hr
   (by rw [hd]; exact ⟨by simp, .inl ⟨D, w₂, rfl, h1, h2⟩⟩)
  exact ⟨e', w'', fr', hR, ComesIn.of_steps (StepsIn.trans harr (.one (fenced_calm (fr := b.atR a' []) (n := 0) trivial hr rfl) (stepR_end rfl))) hs, hfn, hl⟩
 | panic chain =>
  obtain ⟨D, hd, w₂, h1, h2⟩ := hq
  obtain ⟨todo, hs₀⟩ := harr
  obtain ⟨e', w'', fr', hR, hs, hfn, hl⟩ := leaves_stepsInM (F := Fence.wide) (n := 0) (R := R) (tmps := a'.tmps) a'.defers (.panicking chain) w' { b.atR a' todo with mode := .panicking chain } cs rfl rfl rfl hf rfl trivial hr
   (by rw [hd]; exact ⟨by simp, .inl ⟨D, w₂, rfl, h1, h2⟩⟩)
  exact ⟨e', w'', fr', hR, ComesIn.of_steps hs₀ hs, hfn, hl⟩
 | ret => exact hq.elim
 | exit id => exact hq.elim
 | goto l => exact hq.elim
 | outgrown => exact hq.elim
end
end Go
namespace Go.Ax.Cd
open Go.Proofs Go.RowKit
attribute [local go_sem] Oper.semAt_some
set_option linter.unusedVariables false
set_option linter.unusedSimpArgs false
set_option maxRecDepth 100000
set_option maxHeartbeats 4000000 in
theorem aKp (n : Nat) (hn : 1 ≤ n) (l bk : Nat) (A : Option Addr) (L c : Nat) (xs : Nat → Int) (hL : L ≤ 9223372036854775807)
  (J : Nat → World → Prop) (Jp : List PanicEntry → World → Prop)
  (hbk : ∀ k W, J k W → W.cell? ⟨bk, 0, none⟩ = some (.slice A L c))
  (hel : ∀ k W, J k W → ∀ i, i < L → ∃ ad, A = some ad ∧ W.cell? (ad.add i) = some (.int .i64 (xs i)))
  (hY : ∀ k W, J (k + 1) W → k < L → YieldAt Fence.wide (n - 1) Tryz.prog l #[.int .i64 k, .int .i64 (xs k)] W fun e W' =>
   (e = .returned (.bool true) ∧ J k W') ∨ ∃ ch, e = .panicked ch ∧ Jp ch W')
  (W : World) (h0 : J L W) :
  CallsIn Fence.wide n Tryz.prog 274 #[.func (.yield l) #[] #[], .pointer (some ⟨bk, 0, none⟩)] W fun e W' => ((∃ v, e = .returned v) ∧ J 0 W') ∨ ∃ ch, e = .panicked ch ∧ Jp ch W' := by
 refine callsIn_of_wp Tryz.func274 rfl trivial ?_ rfl
 simp only [Tryz.ntmps274, List.size_toArray, List.length_cons, List.length_nil, Nat.reduceAdd, Nat.reduceSub, Array.replicate_succ, Array.replicate_zero, List.push_toArray, List.append_toArray, List.nil_append, List.cons_append]
 have hb0 := hbk _ _ h0
 gi_wp2
 gi_loopw [3] (fun i wr => ∃ k : Nat, k ≤ L ∧ i = .int .i64 ((k : Int) - 1) ∧ J k wr) (fun i _ => (intOf i + 1).toNat)
 case atStart => exact ⟨L, Nat.le_refl _, rfl, h0⟩
 case round =>
  obtain ⟨k, hk, rfl, hJ⟩ := hrel
  have hb := hbk _ _ hJ
  cases k with
  | zero =>
   gi_wp2
   go_end0
   exact .inl ⟨⟨_, rfl⟩, hJ⟩
  | succ k =>
   obtain ⟨ad, rfl, hc⟩ := hel _ _ hJ k (by omega)
   have e1 : (((k + 1 : Nat) : Int) - 1) = (k : Int) := by omega
   have q1 : decide ((k : Int) ≥ 0) = true := by simp
   rw [e1]
   obtain ⟨fn, tmps, assign, body, hy, hR⟩ := hY k wr hJ (by omega)
   gi_wp2
   refine hR.mono ?_
   rintro e W3 (⟨rfl, hJ3⟩ | ⟨ch, rfl, hJ3⟩)
   ·gi_wp2
    go_roundw
    case rel => exact ⟨k, by omega, rfl, hJ3⟩
    case measure => simp [intOf]
   ·refine ⟨rfl, .inr ⟨ch, rfl, hJ3⟩⟩

theorem bDf {ρ : List Value} {F L : Nat → Prop} {hp : List AObj} {w w' : World} {l : Nat} (h : RepH ρ F L hp w) (hc : Ch w w' (fun k => k = l)) (h1 : ¬ Own ρ hp l) (h2 : ¬ Bx F L l) : RepH ρ F L hp w' := by
 have hB : ∀ b, Bx F L b → w'.heap[b]? = w.heap[b]? := fun b hb => hc.block b (h.froz b hb).1 (fun x => h2 (x ▸ hb))
 refine ⟨h.len, fun n o v k1 k2 =>?_, h.dist, fun b hb => ⟨Nat.lt_of_lt_of_le (h.froz b hb).1 hc.size, (h.froz b hb).2⟩⟩
 cases hl : o.live with
 | false => cases o <;> first | trivial | simp [AObj.live] at hl
 | true => exact (h.ob n o v k1 k2).mono (fun _ _ h => h) (fun b hb => hB b (.inl hb)) hB (fun _ h => h) (fun _ h => h) (fun b hb => hc.block b ((h.ob n o v k1 k2).blk_lt hl hb) (fun x => h1 (x ▸ ⟨n, o, v, k1, hl, k2, hb⟩)))
theorem gT {E : Ent} {ρ : List Value} {F : Nat → Prop} {hp : List AObj} {w w' : World} {l : Nat} (h : InvH gl E hp w ρ F) (hc : Ch w w' (fun k => k = l)) (h1 : ¬ Own ρ hp l) (h2 : ¬ Bx F E.L l) (h3 : ¬ l < E.w.heap.size ∨ E.O l) : InvH gl E hp w' ρ F :=
 ⟨bDf h.h hc h1 h2, ⟨⟨hc.os.trans h.stp.ch.os, hc.tape.trans h.stp.ch.tape, hc.output.trans h.stp.ch.output, Nat.le_trans h.stp.ch.size hc.size, fun k hk hn => (hc.block k (Nat.lt_of_lt_of_le hk h.stp.ch.size) (fun e => by subst e; exact h3.elim (fun x => x hk) hn)).trans (h.stp.ch.block k hk hn)⟩, h.stp.fF, h.stp.oO, h.stp.oF⟩, h.pk,
  h.glo.mono (fun b hb => hc.block b (h.h.froz b (.inl hb)).1 (fun e => h2 (.inl (e ▸ hb)))) (fun _ x => x)⟩
theorem oK (w : World) (l : Nat) (o : Obj) : Ch w (w.putObj l o) (fun k => k = l) := ⟨rfl, rfl, rfl, by simp, fun k _ hn => World.putObj_heap_other hn⟩

abbrev bwCon : Con := Con.of [.s (.sln .int)] [] [.clo 274 [.ptr 0 0]] [.box [.sln .int]] (fun x => some ((((), ()), ()), ((x.1.1, ()), ())))
theorem bMt : aK Tryz.prog gl 198 bwCon := by
 refine aOw (fn := Tryz.f198) (c := body Tryz.f198) (res := Tryz.f198.results.toList) (Lc := []) (nh := []) (kd := kd) hm GOk.nil bI (by kernel_rfl) (by kernel_rfl) (by simp) (aA (by kernel_rfl)) ?_
 rintro ⟨⟨l, _⟩, _⟩
 kernel_rfl
noncomputable abbrev fG : List (Nat × Con) := [(198, bwCon)]
theorem bKb : GOk Tryz.prog gl fG := GOk.cons ⟨Tryz.f198, body Tryz.f198, by kernel_rfl, by kernel_rfl, by kernel_rfl⟩ bMt GOk.nil
def sa : Code → Code
 | .seq a _ => a
 | c => c
def sb : Code → Code
 | .seq _ b => b
 | c => c
noncomputable abbrev fR0 : Code := sa (body Tryz.f141)
noncomputable abbrev fR1 : Code := sa (sa (sb (body Tryz.f141)))
noncomputable abbrev fB : Code := sb (sa (sb (body Tryz.f141)))
noncomputable abbrev fR4 : Code := sb (sb (body Tryz.f141))
theorem b28 : body Tryz.f141 = .seq fR0 (.seq (.seq fR1 fB) fR4) := by kernel_rfl
abbrev fvs : List Vh := [.s (.ptr 2 0), .clo 274 [.ptr 3 0]]
abbrev fos : List OSh := [.box [.e (.st .cfg), .e (.sl .int), .own 1, .sln .int], .arr (.st .acc), .box [.ptr 0 0], .box [.sln .int]]
abbrev fosP : List OSh := [.box [.e (.st .cfg), .e (.sl .int), .own 1, .any], .arr (.st .acc), .box [.ptr 0 0], .box [.sln .int]]
noncomputable def fK (e : AEx) (s : St) : Option (VhL fvs × OShL fos) := match e with
 | .normal => if s.tm.length = Tryz.f141.ntmps then dP 2 fvs fos (nE [1, 8] s) s else none
 | _ => none
theorem bMu (c : Cfg) (got : List Int) (d : List Acc) (held : List Int) : exec Tryz.prog gl kd fG 2 plan [] [] (.seq fR0 fR1) (bX Tryz.f141.ntmps [pm] mach (((), ()), ((c, got, (), held, ()), d, ()))) fK =
  some (((), ((), ()), ()), ((c, got, (), held, ()), d, ((), ()), (held, ()), ())) := by kernel_rfl
abbrev fH (c : Cfg) (got : List Int) (d : List Acc) (held : List Int) : List AObj := OShL.enc fos ((c, got, (), held, ()), d, ((), ()), (held, ()), ())
abbrev fHP (c : Cfg) (got : List Int) (d : List Acc) (held : List Int) : List AObj := OShL.enc fosP ((c, got, (), (), ()), d, ((), ()), (held, ()), ())
noncomputable abbrev fS (hp : List AObj) : St := { tm := Go.Ax.setT Tryz.f141.ntmps [(1, .ptr 2 0)], hp := hp }
theorem bMv (c : Cfg) (got : List Int) (d : List Acc) (held : List Int) : dP 2 [.agg []] machP [.agg []] { tm := [], hp := fHP c got d held } = some (((), ()), ((c, got, (), (), ()), d, ())) := by kernel_rfl
abbrev frA (n : Int) : List AVal := [.ptr 0 0, .agg [.int 6, .int n, .int 0, .int 0, .int 0, .int 0]]
noncomputable abbrev doC : Con := cm [pm, .s (.e (.st .acc))] [vi] spDo
theorem bLi (c : Cfg) (got : List Int) (d : List Acc) (held : List Int) (n : Int) : prep doC (frA n) { tm := [], hp := fH c got d held } = some ({ tm := [], hp := fH c got d held }, [0, 1], (((), ⟨6, n, 0, 0, 0, 0⟩, ()), ((c, got, (), held, ()), d, ()))) := by kernel_rfl
theorem bMw (c : Cfg) (got : List Int) (d d' : List Acc) (held : List Int) (r : Int) : after { tm := [], hp := fH c got d held } [0, 1] doC.fix (doC.out (.inl ((r, ()), ((c, got, (), held, ()), d', ())))).2 = { tm := [], hp := fH c got d' held } := by kernel_rfl
theorem bLj (c : Cfg) (got : List Int) (d d' : List Acc) (held : List Int) : after { tm := [], hp := fH c got d held } [0, 1] doC.fix (doC.out (.inr (((), ()), ((c, got, (), (), ()), d', ())))).2 = { tm := [], hp := fHP c got d' held } := by kernel_rfl
open Go.Proofs
def rI : List Int → T Unit
 | [] => .ret ()
 | n :: r => .ask ⟨6, n, 0, 0, 0, 0⟩ fun _ => rI r
def oL (held : List Int) : T Unit := bif decide (held.length ≤ 1000000) then rI held.reverse else .bot
@[reducible] def bKc : Ifc (VhL [pm] × OShL mach) ((VhL [] × OShL mach) ⊕ (VhL [.agg []] × OShL machP)) where
 α := Unit
 tr x := oL x.2.1.2.2.2.1
 got x := x.2.1.2.1
 did x := x.2.2.1
 enc x _ d := .inl ((), (x.2.1.1, x.2.1.2.1, (), [], ()), d, ())
 stop x d := .inr (((), ()), (x.2.1.1, x.2.1.2.1, (), (), ()), d, ())
open Go.Proofs Go.RowKit
attribute [local go_sem] Oper.semAt_some
set_option linter.unusedVariables false
set_option linter.unusedSimpArgs false
set_option maxRecDepth 100000
def ptB (b : Nat) : Value := .pointer (some ⟨b, 0, none⟩)
abbrev acF (n : Int) : Acc := ⟨6, n, 0, 0, 0, 0⟩
theorem aUv (n : Int) {ρ : List Value} {w : World} {F B : Nat → Prop} {b : Nat} (h : ρ[0]? = some (ptB b)) : VRs ρ w F B (frA n) [ptB b, .agg #[.int .i64 6, .int .i64 n, .int .i64 0, .int .i64 0, .int .i64 0, .int .i64 0]] := by
  simp only [frA, VRs, VR, and_true]
  exact ⟨⟨b, h, rfl⟩, _, rfl, by simp [VRs, VR]⟩
theorem bHx {E1 : Ent} {c : Cfg} {got held : List Int} {d : List Acc} {n : Int} {w : World} {ρ : List Value} {F : Nat → Prop} {b0 : Nat} (hI : InvH gl E1 (fH c got d held) w ρ F) (h0 : ρ[0]? = some (ptB b0)) (hd : d.length < 1000000000) :
    Calls Tryz.prog 139 #[ptB b0, .agg #[.int .i64 6, .int .i64 n, .int .i64 0, .int .i64 0, .int .i64 0, .int .i64 0]] w fun e w' => ∃ ρ' F', PK ρ ρ' ∧ Stp w (Own ρ (fH c got d held)) F w' (Own ρ' (fH c got (d ++ [acF n]) held)) F' ∧
      Ch w w' (fun b => ∃ m ∈ [0, 1], ∃ x, ρ[m]? = some x ∧ blk x = some b) ∧
      ((d.length < got.length ∧ (∃ v, e = .returned v) ∧ InvH gl E1 (fH c got (d ++ [acF n]) held) w' ρ' F') ∨ (¬ d.length < got.length ∧ e = .panicked [{ v := .iface 188 (.agg #[]), recovered := false }] ∧ InvH gl E1 (fHP c got (d ++ [acF n]) held) w' ρ' F')) := by
  have hp := bLi c got d held n
  by_cases hlt : d.length < got.length
  · have hs : doC.spec (((), ⟨6, n, 0, 0, 0, 0⟩, ()), ((c, got, (), held, ()), d, ())) = some (.inl ((got.getD d.length 0, ()), ((c, got, (), held, ()), d ++ [acF n], ()))) := by
      show spDo _ = _
      simp only [spDo, T.exec]
      rw [if_pos hd, if_pos hlt]
      rfl
    refine (rO bCm (a := Go.Ax.nil) hI.h.rep hI.glo (aUv n h0) hp hs (Nat.le_of_ble_eq_true (by kernel_rfl))).mono ?_
    rintro e w' ⟨ρ', F', o1, o2, o3, o4, o5, o6⟩
    rw [bMw c got d (d ++ [acF n]) held (got.getD d.length 0)] at o2 o3
    obtain ⟨x, rfl, o1⟩ := o1
    exact ⟨ρ', F', o4, o3, o5, .inl ⟨hlt, ⟨_, rfl⟩, o2.h, hI.stp.trans o3, hI.pk.trans o4, hI.glo.stp (s := { tm := [], hp := _ }) (E := E1) hI.h o3⟩⟩
  · have hs : doC.spec (((), ⟨6, n, 0, 0, 0, 0⟩, ()), ((c, got, (), held, ()), d, ())) = some (.inr (((), ()), ((c, got, (), (), ()), d ++ [acF n], ()))) := by
      show spDo _ = _
      simp only [spDo, T.exec]
      rw [if_pos hd, if_neg hlt]
      rfl
    refine (rO bCm (a := Go.Ax.nil) hI.h.rep hI.glo (aUv n h0) hp hs (Nat.le_of_ble_eq_true (by kernel_rfl))).mono ?_
    rintro e w' ⟨ρ', F', o1, o2, o3, o4, o5, o6⟩
    rw [bLj c got d (d ++ [acF n]) held] at o2 o3
    obtain ⟨x, rfl, o1⟩ := o1
    have hx : x = .iface 188 (.agg #[]) := by
      have o1' : VR ρ' w' F' (Bx F' E1.L) (.ifc 188 (.agg [])) x := o1
      simp only [VR] at o1'
      obtain ⟨u, rfl, cs, rfl, h⟩ := o1'
      have := h.length
      have : cs = #[] := by
        apply Array.eq_empty_of_size_eq_zero
        simpa using this.symm
      rw [this]
    subst hx
    have e1 : Own ρ' (fHP c got (d ++ [acF n]) held) = Own ρ' (fH c got (d ++ [acF n]) held) := by
      funext b
      simp only [Own]
      apply propext
      constructor
      · rintro ⟨m, o, v, h1, h2, h3, h4⟩
        rcases m with _ | m
        · exact ⟨0, _, v, rfl, rfl, h3, h4⟩
        · exact ⟨m + 1, o, v, h1, h2, h3, h4⟩
      · rintro ⟨m, o, v, h1, h2, h3, h4⟩
        rcases m with _ | m
        · exact ⟨0, _, v, rfl, rfl, h3, h4⟩
        · exact ⟨m + 1, o, v, h1, h2, h3, h4⟩
    exact ⟨ρ', F', o4, by rw [← e1]; exact o3, o5, .inr ⟨hlt, rfl, o2.h, hI.stp.trans o3, hI.pk.trans o4, hI.glo.stp (s := { tm := [], hp := _ }) (E := E1) hI.h o3⟩⟩

theorem bMx : ∀ {l : List Value}, l.length = 18 → ∃ u0 u1 u2 u3 u4 u5 u6 u7 u8 u9 u10 u11 u12 u13 u14 u15 u16 u17, l = [u0, u1, u2, u3, u4, u5, u6, u7, u8, u9, u10, u11, u12, u13, u14, u15, u16, u17]
  | [u0, u1, u2, u3, u4, u5, u6, u7, u8, u9, u10, u11, u12, u13, u14, u15, u16, u17], _ => ⟨_, _, _, _, _, _, _, _, _, _, _, _, _, _, _, _, _, _, rfl⟩
def bkc : Code → Code
  | .block _ c => c
  | c => c
def rgA : Code → Code
  | .rangeFunc _ _ a _ => a
  | c => c
def rgB : Code → Code
  | .rangeFunc _ _ _ b => b
  | c => c
noncomputable abbrev fA : Code := rgA (bkc fB)
noncomputable abbrev fC : Code := rgB (bkc fB)
theorem eB : fB = .block 0 (.rangeFunc (.tmp 8) #[9, 10] fA fC) := by kernel_rfl
theorem eA : fA = .region 2 #[{ dst := some 3, op := Op.assign (Operand.tmp 10), type := 3, pos := "code.go:93", after := #[], guard := none }] false := by kernel_rfl
theorem eC : fC = .block 1 (Code.region 3
                      #[{ dst := some 11, op := Op.load 184 (Operand.tmp 1), type := 184, pos := "code.go:94",
                          after := #[], guard := none },
                        { dst := some 12, op := Op.move (Operand.tmp 3), type := 3, pos := "code.go:94",
                          after := #[], guard := none },
                        { dst := some 13,
                          op :=
                            Op.build 63
                              #[(0, Operand.const (Value.int IntKind.i64 6)), (1, Operand.tmp 12)],
                          type := 63, pos := "code.go:94", after := #[{ on := 1, ground := Ground.data }],
                          guard := none },
                        { dst := some 14,
                          op :=
                            Op.call
                              { callee := Callee.value (Operand.func 139),
                                args := #[Operand.tmp 11, Operand.tmp 13], argTypes := #[184, 63] },
                          type := 3, pos := "code.go:94",
                          after := #[{ on := 0, ground := Ground.data }, { on := 2, ground := Ground.data }],
                          guard := none }]
                      false) := by kernel_rfl
structure FJ (E1 : Ent) (c : Cfg) (got held : List Int) (O : Out Unit) (D : Nat) (lp : Loop) (k : Nat) (W : World) : Prop where
  ex : ∃ d, (rI (held.take k).reverse).exec got d = O ∧ ∃ ρ F, InvH gl E1 (fH c got d held) W ρ F ∧ ∀ b, b = D ∨ b = D + 1 → ¬ Own ρ (fH c got d held) b ∧ ¬ Bx F E1.L b
  dd : W.heap[D]? = some (.deferred (some []))
  ll : W.heap[D + 1]? = some (.loop lp)
def FJp (E1 : Ent) (c : Cfg) (got held : List Int) (O : Out Unit) (D : Nat) (ch : List PanicEntry) (W : World) : Prop :=
  ch = [{ v := .iface 188 (.agg #[]), recovered := false }] ∧ (∃ d, O = .stop d ∧ ∃ ρ F, InvH gl E1 (fHP c got d held) W ρ F ∧ ¬ Own ρ (fHP c got d held) D ∧ ¬ Bx F E1.L D) ∧ W.heap[D]? = some (.deferred (some []))
theorem bMy {c : Cfg} {got held : List Int} {d : List Acc} {ρ : List Value} {b : Nat} (h : Own ρ (fHP c got d held) b) : Own ρ (fH c got d held) b := by
  obtain ⟨m, o, v, h1, h2, h3, h4⟩ := h
  rcases m with _ | m
  · exact ⟨0, _, v, rfl, rfl, h3, h4⟩
  · exact ⟨m + 1, o, v, h1, h2, h3, h4⟩
theorem aQu {held got : List Int} {k : Nat} (hk : k < held.length) {d : List Acc} {O : Out Unit} (hO : O ≠ .bot) (h : (rI (held.take (k + 1)).reverse).exec got d = O) :
    d.length < 1000000000 ∧ (d.length < got.length → (rI (held.take k).reverse).exec got (d ++ [acF held[k]]) = O) ∧ (¬ d.length < got.length → O = .stop (d ++ [acF held[k]])) := by
  have e1 : (held.take (k + 1)).reverse = held[k] :: (held.take k).reverse := by
    rw [List.take_succ_eq_append_getElem hk, List.reverse_append]
    rfl
  rw [e1, rI, T.exec] at h
  by_cases h1 : d.length < 1000000000
  · rw [if_pos h1] at h
    refine ⟨h1, fun h2 =>?_, fun h2 =>?_⟩
    · rw [if_pos h2] at h
      exact h
    · rw [if_neg h2] at h
      exact h.symm
  · rw [if_neg h1] at h
    exact absurd h.symm hO
theorem aQv {E1 : Ent} {c : Cfg} {got held : List Int} {O : Out Unit} (hO : O ≠ .bot) {D b0 b2 : Nat} {u : Array Value} (hu : u.size = 18) (hu1 : u.toList[1]? = some (ptB b2))
    (hD : E1.w.heap.size ≤ D) (h0 : E1.ρ[0]? = some (ptB b0)) (h2 : E1.ρ[2]? = some (ptB b2)) {lp : Loop} (hlp : lp = { state := .ready, pending := none, fn := 141, tmps := u, params := #[9, 10], assign := fA, body := fC, defers := D })
    {k : Nat} (hk : k < held.length) {W : World} (hJ : FJ E1 c got held O D lp (k + 1) W) :
    YieldAt Fence.wide 3 Tryz.prog (D + 1) #[.int .i64 k, .int .i64 held[k]] W fun e W' =>
      (e = .returned (.bool true) ∧ FJ E1 c got held O D lp k W' ∧ ∀ b3, E1.ρ[3]? = some (ptB b3) → W'.heap[b3]? = W.heap[b3]?) ∨ ∃ ch, e = .panicked ch ∧ FJp E1 c got held O D ch W' := by
  obtain ⟨⟨d, hex, ρ, F, hI, hN⟩, hd, hl⟩ := hJ
  obtain ⟨hd9, hgo, hst⟩ := aQu hk hO hex
  obtain ⟨l, rfl⟩ : ∃ l : List Value, u = l.toArray := ⟨u.toList, by simp⟩
  obtain ⟨u0, u1, u2, u3, u4, u5, u6, u7, u8, u9, u10, u11, u12, u13, u14, u15, u16, u17, rfl⟩ := bMx (by simpa using hu)
  obtain rfl : u1 = ptB b2 := by simpa using hu1
  refine ⟨lp.fn, _, lp.assign, lp.body, run_yield hl (by rw [hlp]; rfl), ?_⟩
  have e1 : lp.fn = 141 := by rw [hlp]
  have e2 : lp.assign = fA := by rw [hlp]
  have e3 : lp.body = fC := by rw [hlp]
  have e4 : lp.params = #[9, 10] := by rw [hlp]
  have e5 : lp.tmps = #[u0, ptB b2, u2, u3, u4, u5, u6, u7, u8, u9, u10, u11, u12, u13, u14, u15, u16, u17] := by rw [hlp]
  have e6 : lp.state = .ready := by rw [hlp]
  have e7 : lp.pending = none := by rw [hlp]
  rw [e1, e2, e3, e4, e5]
  refine nS trivial (fn := Tryz.f141) (by kernel_rfl) ?_
  rw [eA, eC]
  have hlD : D + 1 < W.heap.size := (Array.getElem?_eq_some_iff.1 hl).1
  have hdD : D < W.heap.size := (Array.getElem?_eq_some_iff.1 hd).1
  have hI2 : InvH gl E1 (fH c got d held) (W.putObj (D + 1) (.loop { lp with state := .busy })) ρ F := gT hI (oK _ _ _) (hN _ (.inr rfl)).1 (hN _ (.inr rfl)).2 (.inl (by omega))
  have hd2 : (W.putObj (D + 1) (.loop { lp with state := .busy })).heap[D]? = some (.deferred (some [])) := (World.putObj_heap_other (by omega)).trans hd
  have hl2 : (W.putObj (D + 1) (.loop { lp with state := .busy })).heap[D + 1]? = some (.loop { lp with state := .busy }) := World.putObj_heap_same hlD
  have hb32 : ∀ b3, E1.ρ[3]? = some (ptB b3) → b3 < W.heap.size ∧ b3 ≠ D + 1 ∧ (W.putObj (D + 1) (.loop { lp with state := .busy })).heap[b3]? = W.heap[b3]? := fun b3 h3 => by
    have ho : Own ρ (fH c got d held) b3 := ⟨3, _, _, rfl, rfl, hI.pk _ _ h3, rfl⟩
    have hne : b3 ≠ D + 1 := fun e => (hN _ (.inr rfl)).1 (e ▸ ho)
    exact ⟨hI.h.own_lt ho, hne, World.putObj_heap_other hne⟩
  have hs2 : (W.putObj (D + 1) (.loop { lp with state := .busy })).heap.size = W.heap.size := by simp
  have hbr := run_beginRound (P := Tryz.prog) hl e6
  generalize W.putObj (D + 1) (.loop { lp with state := .busy }) = W2 at hI2 hd2 hl2 hs2 hbr hb32
  have hp0 := hI2.pk _ _ h0
  have hp2 := hI2.pk _ _ h2
  have hc2 : W2.cell? ⟨b2, 0, none⟩ = some (ptB b0) := by
    have := hI2.h.ob 2 (.box [.ptr 0 0]) _ rfl hp2
    obtain ⟨b, cs, ty, h1, h2, h3⟩ := this
    obtain rfl : b2 = b := by simpa [ptB] using h1
    obtain ⟨cs, rfl⟩ : ∃ l : List Value, cs = l.toArray := ⟨cs.toList, by simp⟩
    have h4 := h3.length
    match cs, h3 with
    | [v], h3 =>
      simp only [VRs, VR, and_true] at h3
      obtain ⟨b', k1, k2⟩ := h3
      rw [hp0] at k1
      simp only [ptB, Option.some.injEq, Value.pointer.injEq, Addr.mk.injEq] at k1
      obtain ⟨rfl, _⟩ := k1
      simp [World.cell?, h2, k2, ptB]
    | [], h3 => simp at h4
    | _ :: _ :: _, h3 => simp at h4
  clear hlp
  simp only [ptB] at hc2 ⊢
  gi_wp2
  refine ⟨trivial, ?_⟩
  refine (CallsIn.inRound (D + 1) (callsIn_wide.2 (bHx (n := held[k]) hI2 hp0 hd9))).mono ?_
  rintro e W3 ⟨ρ3, F3, p1, p2, p3, p4⟩
  have hN3 : ∀ b, b = D ∨ b = D + 1 → ¬ Own ρ3 (fH c got (d ++ [acF held[k]]) held) b ∧ ¬ Bx F3 E1.L b := fun b hb => by
    have hb2 : b < W2.heap.size := by rcases hb with rfl | rfl <;> omega
    refine ⟨fun h =>?_, fun h =>?_⟩
    · rcases p2.oO b h with h | h
      · exact (hN b hb).1 h
      · omega
    · rcases h with h | h
      · rcases p2.oF b h with h | h | h
        · exact (hN b hb).2 (.inl h)
        · exact (hN b hb).1 h
        · omega
      · exact (hN b hb).2 (.inr h)
  have hd3 : W3.heap[D]? = some (.deferred (some [])) := (p2.ch.block D (by omega) (hN D (.inl rfl)).1).trans hd2
  have hl3 := (p2.ch.block (D + 1) (by omega) (hN (D + 1) (.inr rfl)).1).trans hl2
  rcases p4 with ⟨q1, ⟨v, rfl⟩, q3⟩ | ⟨q1, rfl, q3⟩
  · gi_wp2
    refine ⟨_, _, run_endRound (P := Tryz.prog) none hl3, .inl ⟨rfl, ⟨⟨_, hgo q1, ρ3, F3, gT q3 (oK _ _ _) (hN3 _ (.inr rfl)).1 (hN3 _ (.inr rfl)).2 (.inl (by omega)), hN3⟩, (World.putObj_heap_other (by omega)).trans hd3, ?_⟩, fun b3 h3 =>?_⟩⟩
    rotate_left
    · obtain ⟨k1, k2, k3⟩ := hb32 b3 h3
      rw [World.putObj_heap_other k2, ← k3]
      refine p3.block b3 (by omega) ?_
      rintro ⟨m, hm, x, hx, hb⟩
      have hp3 := hI2.pk _ _ h3
      simp only [List.mem_cons, List.not_mem_nil, or_false] at hm
      rcases hm with rfl | rfl
      · have := hI2.h.dist 0 3 _ _ _ _ b3 rfl rfl rfl rfl hx hp3 hb rfl
        omega
      · have := hI2.h.dist 1 3 _ _ _ _ b3 rfl rfl rfl rfl hx hp3 hb rfl
        omega
    rw [World.putObj_heap_same (by have := p2.ch.size; omega)]
    have : lp = { lp with state := .ready, pending := none } := by rw [← e6, ← e7]
    exact congrArg (fun x => some (Obj.loop x)) this.symm
  · gi_wp2
    exact ⟨rfl, .inr ⟨_, rfl, rfl, ⟨_, hst q1, ρ3, F3, q3, fun h => (hN3 _ (.inl rfl)).1 (bMy h), (hN3 _ (.inl rfl)).2⟩, hd3⟩⟩
set_option linter.unusedVariables false
set_option linter.unusedSimpArgs false
set_option maxRecDepth 100000
theorem bMz {w : World} {F : Nat → Prop} {xs : List Int} {A : Option Addr} {L c : Nat} (h : Rd w F (.sl .int) xs [.slice A L c]) : L = xs.length ∧ ∀ i (hi : i < xs.length), ∃ ad, A = some ad ∧ F ad.block ∧ w.cell? (ad.add i) = some (.int .i64 xs[i]) := by
 cases h with
 | nil => exact ⟨rfl, fun i hi => nomatch hi⟩
 | sl e xs b o cap rows hF hc hr hz hw =>
  refine ⟨rfl, fun i hi => ⟨_, rfl, hF, ?_⟩⟩
  have h1 := hr i hi
  generalize hx : rows i = row at h1
  cases h1
  have := hw i 0 (.int .i64 xs[i]) hi (by rw [hx]; rfl)
  simp only [EK.sz, Nat.mul_one, Nat.add_zero] at this
  rw [← this]
  simp only [Addr.add]
  split
  ·rename_i h
   simp [h]
  ·rfl
theorem aYl {E1 : Ent} {c : Cfg} {got held : List Int} {d0 : List Acc} {O : Out Unit} (hO : O ≠ .bot) (hlen : held.length ≤ 9223372036854775807) {b0 b2 b3 : Nat} {u : Array Value} (hu : u.size = 18) (hu1 : u.toList[1]? = some (ptB b2)) {w1 : World} {ρ1 : List Value} {F1 : Nat → Prop}
  (hE : E1 = ⟨ρ1, w1, Own ρ1 (fH c got d0 held), F1, E1.L, [], false⟩) (hI : InvH gl E1 (fH c got d0 held) w1 ρ1 F1) (h0 : ρ1[0]? = some (ptB b0)) (h2 : ρ1[2]? = some (ptB b2)) (h3 : ρ1[3]? = some (ptB b3))
  (hex : (rI held.reverse).exec got d0 = O) {lp : Loop} (hlp : lp = { state := .ready, pending := none, fn := 141, tmps := u, params := #[9, 10], assign := fA, body := fC, defers := w1.heap.size }) :
  Calls Tryz.prog 274 #[.func (.yield (w1.heap.size + 1)) #[] #[], ptB b3] ((w1.alloc (.deferred (some []))).alloc (.loop lp)) fun e W' =>
   ((∃ v, e = .returned v) ∧ FJ E1 c got held O w1.heap.size lp 0 W') ∨ ∃ ch, e = .panicked ch ∧ FJp E1 c got held O w1.heap.size ch W' := by
 obtain ⟨cs, ty, hb3, hcs⟩ : ∃ (cs : Array Value) (ty : TypeId), w1.heap[b3]? = some (.cells cs ty (0, 0)) ∧ VRs ρ1 w1 F1 (Bx F1 E1.L) [.sln .int held] cs.toList := by
  obtain ⟨b, cs, ty, k1, k2, k3⟩ := hI.h.ob 3 (.box [.sln .int held]) _ rfl h3
  obtain rfl : b3 = b := by simpa [ptB] using k1
  exact ⟨cs, ty, k2, k3⟩
 obtain ⟨cs, rfl⟩ : ∃ l : List Value, cs = l.toArray := ⟨cs.toList, by simp⟩
 obtain ⟨v, rfl⟩ : ∃ v, cs = [v] := by
  have h4 := hcs.length
  match cs, h4 with
  | [v], _ => exact ⟨v, rfl⟩
  | [], h4 => simp at h4
  | _ :: _ :: _, h4 => simp at h4
 simp only [VRs, VR, and_true] at hcs
 obtain ⟨A, cap, rfl, hcap⟩ := hcs.1.slice
 obtain ⟨_, hat⟩ := bMz hcs.1
 have hfz : ∀ b, F1 b → b < w1.heap.size ∧ ¬ Own ρ1 (fH c got d0 held) b := fun b hb => hI.h.froz b (.inl hb)
 have hlt3 : b3 < w1.heap.size := (Array.getElem?_eq_some_iff.1 hb3).1
 have hO3 : Own ρ1 (fH c got d0 held) b3 := ⟨3, _, _, rfl, rfl, h3, rfl⟩
 refine (callsIn_wide (n := 4)).1 ((aKp 4 (by omega) (w1.heap.size + 1) b3 A held.length cap (fun i => held.getD i 0) hlen
  (fun k W => FJ E1 c got held O w1.heap.size lp k W ∧ W.heap[b3]? = w1.heap[b3]?) (FJp E1 c got held O w1.heap.size) ?bk ?el ?yy _ ?start).mono ?fin)
 case bk =>
  rintro k W ⟨_, hb⟩
  simp [World.cell?, hb, hb3]
 case el =>
  rintro k W ⟨⟨⟨d, _, ρ, F, hI', _⟩, _, _⟩, _⟩ i hi
  obtain ⟨ad, h1, h2, h3⟩ := hat i hi
  refine ⟨ad, h1, ?_⟩
  have e : W.heap[ad.block]? = w1.heap[ad.block]? := by
   have := hI'.stp.ch.block ad.block
   rw [hE] at this
   exact this (hfz _ h2).1 (hfz _ h2).2
  rw [List.getD_eq_getElem?_getD, List.getElem?_eq_getElem hi, Option.getD_some, ← h3]
  exact bK (by simpa [Addr.add] using (by split <;> exact e))
 case yy =>
  rintro k W ⟨hJ, hb⟩ hk
  have := aQv hO hu hu1 (by rw [hE]; exact Nat.le_refl _) (by rw [hE]; exact h0) (by rw [hE]; exact h2) hlp hk hJ
  rw [List.getD_eq_getElem?_getD, List.getElem?_eq_getElem hk, Option.getD_some]
  obtain ⟨fn, tmps, asg, bd, hy, hR⟩ := this
  refine ⟨fn, tmps, asg, bd, hy, hR.mono ?_⟩
  rintro e W' (⟨rfl, q1, q2⟩ | q)
  ·exact .inl ⟨rfl, q1, (q2 b3 (by rw [hE]; exact h3)).trans hb⟩
  ·exact .inr q
 case start =>
  have hch : Ch w1 ((w1.alloc (.deferred (some []))).alloc (.loop lp)) (fun _ => False) := ((Ch.alloc w1 _ _).trans (Ch.alloc _ _ _)).mono (fun _ h => h.elim id id)
  refine ⟨⟨⟨d0, by rw [List.take_length]; exact hex, ρ1, F1, ⟨hI.h.still hch, hI.stp.still hch, hI.pk, hI.glo.mono (fun b hb => hch.block b (hI.h.froz b (.inl hb)).1 id) (fun _ h => h)⟩, fun b hb => ⟨fun h =>?_, fun h =>?_⟩⟩, ?_, ?_⟩, hch.block b3 hlt3 id⟩
  ·have := hI.h.own_lt h
   omega
  ·have := (hI.h.froz b h).1
   omega
  ·rw [Below.heap_alloc _ _ _ (by simp)]
   exact World.alloc_heap_new _ _
  ·have := World.alloc_heap_new (w1.alloc (.deferred (some []))) (.loop lp)
   simpa using this
 case fin =>
  rintro e W' (⟨h1, h2, _⟩ | h)
  ·exact .inl ⟨h1, h2⟩
  ·exact .inr h

noncomputable def fK4 (e : AEx) (s : St) : Option (VhL [] × OShL fos) := match e with
 | .normal => dP 4 [] fos [] s
 | _ => none
theorem bLk (c : Cfg) (got : List Int) (d : List Acc) (held : List Int) : exec Tryz.prog gl kd [] 4 plan [] [] fR4 (fS (fH c got d held)) fK4 = some ((), ((c, got, (), [], ()), d, ((), ()), (held, ()), ())) := by kernel_rfl
abbrev fH2 (c : Cfg) (got : List Int) (d : List Acc) (held : List Int) : List AObj := OShL.enc fos ((c, got, (), [], ()), d, ((), ()), (held, ()), ())
theorem bLl (c : Cfg) (got : List Int) (d : List Acc) (held : List Int) : dP 2 [] mach [] { tm := [], hp := fH2 c got d held } = some ((), ((c, got, (), [], ()), d, ())) := by kernel_rfl
abbrev bLm : Type := VhL [pm] × OShL mach → Option ((VhL [] × OShL mach) ⊕ (VhL [.agg []] × OShL machP))
noncomputable abbrev bDg (sp : bLm) : Con := cq [pm] mach [] mach machP sp
theorem bLn : Callable Tryz.prog 141 := ⟨Tryz.f141, body Tryz.f141, by kernel_rfl, by kernel_rfl, by kernel_rfl⟩
theorem bHy : aK Tryz.prog gl 141 (bDg (Ifc.spec bKc)) := by
 rintro av h ⟨⟨_, _⟩, ⟨c, got, _, held, _⟩, did, _⟩ y hd hy ρ F L w us hR hv hg
 obtain ⟨hn0, hI⟩ := lP (nt := Tryz.f141.ntmps) hd hR hv hg false
 have hy2 : pT (fun a d => (.inl ((), ((c, got, (), [], ()), d, ())) : (VhL [] × OShL mach) ⊕ (VhL [.agg []] × OShL machP))) (fun d => .inr (((), ()), (c, got, (), (), ()), d, ())) ((oL held).exec got did) = some y := hy
 clear hy
 have hlen : held.length ≤ 9223372036854775807 := by
  unfold oL at hy2
  by_cases hl : held.length ≤ 1000000
  ·omega
  ·rw [decide_eq_false hl, cond_false] at hy2
   cases hy2
 have hfr : (oL held).exec got did = (rI held.reverse).exec got did := by
  unfold oL at hy2 ⊢
  by_cases hl : held.length ≤ 1000000
  ·rw [decide_eq_true hl, cond_true]
  ·rw [decide_eq_false hl, cond_false] at hy2
   cases hy2
 rw [hfr] at hy2
 generalize hO : (rI held.reverse).exec got did = O at hy2
 have hOb : O ≠ .bot := by
  rintro rfl
  cases hy2
 refine (aDp (fn := Tryz.f141) (c := body Tryz.f141) (by kernel_rfl) (by kernel_rfl) (R := EndR gl ⟨ρ, w, Own ρ h, F, L, [], false⟩ ((bDg (Ifc.spec bKc)).out y)) ?_).mono ?_
 rotate_left
 ·rintro e w' ⟨ρ', F', k1, k2⟩
  exact ⟨ρ', F', k1, k2.h, k2.stp, k2.pk, fun i hi => nomatch hi⟩
 rw [b28]
 generalize hE0 : (⟨ρ, w, Own ρ h, F, L, [], false⟩ : Ent) = E0 at hI ⊢
 have hn2 : E0.ρ.length = 2 := by rw [← hE0]; exact hn0
 have hz := bMu c got did held
 simp only [exec] at hz
 refine mG (K := fun _ _ _ => False) (N := fun a w => ∃ s ρ F, Inv gl E0 s a w ρ F ∧ exec Tryz.prog gl kd fG 2 plan [] [] fR1 s fK = some (((), ((), ()), ()), ((c, got, (), held, ()), did, ((), ()), (held, ()), ())))
  (oJ (wp_mono (bC hm bKb bI hn2 fR0 (.inl (by rw [← hE0])) (aA (by kernel_rfl)) hI hz) (fun ex a1 w1 q =>?_))) ?_ (fun _ _ _ h => h.elim)
 ·cases ex with
  | exit i => obtain ⟨s, ρ1, F1, h1, h2⟩ := q; cases h2
  | ret => obtain ⟨s, ρ1, F1, h1, h2⟩ := q; cases h2
  | panic c => obtain ⟨s, ρ1, F1, v, x, h1, h2, h3, h4, h5⟩ := q; cases h5
  | goto l => exact q.elim
  | outgrown => exact q.elim
  | normal => exact q
 clear hz hI
 rintro a w0 ⟨s, ρ0, F0, hI, hz⟩
 -- what holds behind the range
 let NL : Act → World → Prop := fun a w => ∃ D d ρ F b2, a.defers = [{ target := .collected D, args := #[] }] ∧ a.tmps.size = 18 ∧ a.tmps.toList[1]? = some (ptB b2) ∧ O = .ok () d ∧ w.heap[D]? = some (.deferred (some [])) ∧ E0.w.heap.size ≤ D ∧ InvH gl E0 (fH c got d held) w ρ F ∧ ρ[2]? = some (ptB b2) ∧ ¬ Own ρ (fH c got d held) D ∧ ¬ Bx F E0.L D
 let KL : List PanicEntry → Act → World → Prop := fun ch a w => ∃ D d ρ F, a.defers = [{ target := .collected D, args := #[] }] ∧ ch = [{ v := .iface 188 (.agg #[]), recovered := false }] ∧ O = .stop d ∧ w.heap[D]? = some (.deferred (some [])) ∧ E0.w.heap.size ≤ D ∧ InvH gl E0 (fHP c got d held) w ρ F ∧ ¬ Own ρ (fHP c got d held) D ∧ ¬ Bx F E0.L D
 refine mG (N := NL) (K := KL) ?range ?after ?pan
 case range =>
  refine mG (K := fun _ _ _ => False) (N := fun a w => ∃ s ρ F, Inv gl E0 s a w ρ F ∧ fK .normal s = some (((), ((), ()), ()), ((c, got, (), held, ()), did, ((), ()), (held, ()), ())))
   (oJ (wp_mono (bC hm bKb bI hn2 fR1 (.inl (by rw [← hE0])) (aA (by kernel_rfl)) hI hz) (fun ex a1 w1 q =>?_))) ?_ (fun _ _ _ h => h.elim)
  ·cases ex with
   | exit i => obtain ⟨s, ρ1, F1, h1, h2⟩ := q; cases h2
   | ret => obtain ⟨s, ρ1, F1, h1, h2⟩ := q; cases h2
   | panic c => obtain ⟨s, ρ1, F1, v, x, h1, h2, h3, h4, h5⟩ := q; cases h5
   | goto l => exact q.elim
   | outgrown => exact q.elim
   | normal => exact q
  clear hz hI
  rintro a1 w1 ⟨s1, ρ9, F9, hI, hz⟩
  simp only [fK] at hz
  split at hz
  case isFalse => cases hz
  rename_i hnt
  obtain ⟨ρ1, F1, hI1⟩ := kZ hn2 hI hnt hz
  have hsz : a1.tmps.size = 18 := by
   have := hI1.rep.tm.length
   rw [mB] at this
   exact (Array.length_toList (xs := a1.tmps)) ▸ this.symm
  have ht := fun t => hI1.rep.tm.getD t undef
  have t1 := ht 1
  have t8 := ht 8
  have q1 : (Go.Ax.setT Tryz.f141.ntmps (([1, 8] : List Nat).zip (VhL.enc fvs (((), ((), ()), ()) : VhL fvs)))).getD 1 .any = .ptr 2 0 := by kernel_rfl
  have q8 : (Go.Ax.setT Tryz.f141.ntmps (([1, 8] : List Nat).zip (VhL.enc fvs (((), ((), ()), ()) : VhL fvs)))).getD 8 .any = .clo 274 [.ptr 3 0] := by kernel_rfl
  dsimp only at t1 t8
  rw [q1] at t1
  rw [q8] at t8
  simp only [VR] at t1 t8
  obtain ⟨b2, k2, t1⟩ := t1
  obtain ⟨cs, ⟨t8, _⟩, k3⟩ := t8
  obtain ⟨cs, rfl⟩ : ∃ l : List Value, cs = l.toArray := ⟨cs.toList, by simp⟩
  obtain ⟨v, rfl⟩ : ∃ v, cs = [v] := by
   have h4 := k3.length
   match cs, h4 with
   | [v], _ => exact ⟨v, rfl⟩
   | [], h4 => simp at h4
   | _ :: _ :: _, h4 => simp at h4
  simp only [VRs, VR, and_true] at k3
  obtain ⟨b3, k3, rfl⟩ := k3
  have g8 : a1.tmps.getD 8 undef = .func (.func 274) #[] #[ptB b3] := by
   rw [List.getD_eq_getElem?_getD, Array.getElem?_toList] at t8
   rw [Array.getD_eq_getD_getElem?, t8]
   rfl
  have g1 : a1.tmps.toList[1]? = some (ptB b2) := by
   rw [List.getD_eq_getElem?_getD, Array.getElem?_toList] at t1
   rw [Array.getElem?_toList]
   rw [Array.getElem?_eq_getElem (by omega)] at t1 ⊢
   exact congrArg some t1
  have hI2 : InvH gl E0 (fH c got did held) w1 ρ1 F1 := hI1.toInvH
  obtain ⟨x0, k0, b0, cs0, ty0, rfl, _, _⟩ := hI2.h.at (show (fH c got did held)[0]? = some (AObj.box _) from rfl)
  let E1 : Ent := ⟨ρ1, w1, Own ρ1 (fH c got did held), F1, E0.L, [], false⟩
  have hI3 : InvH gl E1 (fH c got did held) w1 ρ1 F1 := ⟨hI2.h, .refl _ _ _, .refl _, hI2.glo⟩
  rw [eB]
  refine aCn (qC (d := { target := .fn (.func 274) #[ptB b3], args := #[.func (.yield (w1.heap.size + 1)) #[] #[]] }) (f := 274) (args := #[.func (.yield (w1.heap.size + 1)) #[] #[], ptB b3]) rfl ?_ ?_ ((aYl (E1 := E1) hOb hlen hsz g1 rfl hI3 k0 k2 k3 hO rfl).mono ?_))
  ·have g8' : a1.tmps[8]?.getD undef = .func (.func 274) #[] #[ptB b3] := by rw [← g8, Array.getD_eq_getD_getElem?]
   simp [resolve, rangeCall, go_sem, g8']
  ·simp [invoke, kY (⟨Tryz.f274, body Tryz.f274, by kernel_rfl, by kernel_rfl, by kernel_rfl⟩ : Callable Tryz.prog 274)]
  ·have hup : ∀ {hp : List AObj} {w3 : World} {ρ3 : List Value} {F3 : Nat → Prop}, InvH gl E1 hp w3 ρ3 F3 → InvH gl E0 hp w3 ρ3 F3 := fun h => ⟨h.h, hI2.stp.trans h.stp, hI2.pk.trans h.pk, h.glo⟩
   have hds : a1.defers = [] := by
    have := hI1.dfs
    rw [← hE0] at this
    exact this
   have hD0 : E0.w.heap.size ≤ w1.heap.size := hI2.stp.ch.size
   rintro e w3 (⟨⟨v, rfl⟩, ⟨d, hex, ρ3, F3, hI4, hN⟩, hdd, hll⟩ | ⟨ch, rfl, rfl, ⟨d, hex, ρ3, F3, hI4, hN1, hN2⟩, hdd⟩)
   ·refine ⟨_, run_endLoop hll (by simp), w1.heap.size, d, ρ3, F3, b2, by rw [hds], hsz, g1, hex.symm, (World.putObj_heap_other (by omega)).trans hdd, hD0, gT (hup hI4) (oK _ _ _) (hN _ (.inr rfl)).1 (hN _ (.inr rfl)).2 (.inl (by omega)), hI4.pk _ _ k2, (hN _ (.inl rfl)).1, (hN _ (.inl rfl)).2⟩
   ·exact ⟨w1.heap.size, d, ρ3, F3, by rw [hds], rfl, hex, hdd, hD0, hup hI4, hN1, hN2⟩
 case pan =>
  rintro ch a4 w4 ⟨D, d, ρ4, F4, hdf, rfl, rfl, hdd, hD0, hI4, hN1, hN2⟩
  refine ⟨D, hdf, _, run_takeDeferred hdd, ?_⟩
  have hI5 := gT hI4 (oK _ D (.deferred none)) hN1 hN2 (.inl (by omega))
  obtain ⟨ρ5, F5, h1, h2⟩ := bV hn2 (a := Go.Ax.nil) hI5.h.rep hI5 (vals := [.agg []]) (us := [.agg #[]]) (by simp [VRs, VR]) (bMv c got d held)
  cases hy2
  refine ⟨ρ5, F5, ⟨_, rfl, ?_⟩, h1⟩
  show VR _ _ _ _ (.ifc 188 (.agg [])) _
  simp [VR, VRs]
 case after =>
  rintro a4 w4 ⟨D, d, ρ4, F4, b2, hdf, hsz, g1, rfl, hdd, hD0, hI4, k2, hN1, hN2⟩
  cases hy2
  let E4 : Ent := ⟨ρ4, w4, Own ρ4 (fH c got d held), F4, E0.L, [{ target := .collected D, args := #[] }], false⟩
  have hI5 : Inv gl E4 (fS (fH c got d held)) a4 w4 ρ4 F4 := by
   refine .of ⟨iF (by simpa using hsz) (fun q hq =>?_), hI4.h⟩ (.refl _ _ _) (.refl _) hI4.glo hdf
   simp only [List.mem_cons, List.not_mem_nil, or_false] at hq
   subst hq
   simp only [VR]
   refine ⟨b2, k2, ?_⟩
   rw [List.getD_eq_getElem?_getD, g1]
   rfl
  have hn4 : E4.ρ.length = 4 := hI4.h.len
  refine oJ (wp_mono (bC hm GOk.nil bI hn4 fR4 (.inl rfl) (aA (by kernel_rfl)) hI5 (bLk c got d held)) (fun ex a5 w5 q =>?_))
  cases ex with
  | exit i => obtain ⟨s, ρ1, F1, h1, h2⟩ := q; cases h2
  | ret => obtain ⟨s, ρ1, F1, h1, h2⟩ := q; cases h2
  | panic c => obtain ⟨s, ρ1, F1, v, x, h1, h2, h3, h4, h5⟩ := q; cases h5
  | goto l => exact q.elim
  | outgrown => exact q.elim
  | normal =>
   obtain ⟨s5, ρ5, F5, h1, h2⟩ := q
   obtain ⟨ρ6, F6, h3, _⟩ := bV hn4 h1.rep h1.toInvH (vals := []) (us := []) (by simp [VRs]) h2
   have hlt : D < w4.heap.size := (Array.getElem?_eq_some_iff.1 hdd).1
   have hN5 : ¬ Own ρ6 (fH2 c got d held) D ∧ ¬ Bx F6 E0.L D := by
    refine ⟨fun h =>?_, fun h =>?_⟩
    ·rcases h3.stp.oO D h with h | h
     ·exact hN1 h
     ·exact absurd hlt (by exact Nat.not_lt.2 h)
    ·rcases h with h | h
     ·rcases h3.stp.oF D h with h | h | h
      ·exact hN2 (.inl h)
      ·exact hN1 h
      ·exact absurd hlt (by exact Nat.not_lt.2 h)
     ·exact hN2 (.inr h)
   have hd5 : w5.heap[D]? = some (.deferred (some [])) := (h3.stp.ch.block D hlt hN1).trans hdd
   have hI6 : InvH gl E0 (fH2 c got d held) w5 ρ6 F6 := ⟨h3.h, hI4.stp.trans h3.stp, hI4.pk.trans h3.pk, h3.glo⟩
   have hI7 := gT hI6 (oK _ D (.deferred none)) hN5.1 hN5.2 (.inl (by omega))
   obtain ⟨ρ8, F8, h8, _⟩ := bV hn2 (a := Go.Ax.nil) hI7.h.rep hI7 (vals := []) (us := []) (by simp [VRs]) (bLl c got d held)
   refine ⟨D, h1.dfs, _, run_takeDeferred hd5, _, results_none (by kernel_rfl) _ _ _, ρ8, F8, ⟨_, rfl, ?_⟩, h8⟩
   show VR _ _ _ _ (.tup []) _
   simp [VR, VRs]
end Go.Ax.Cd
