/- Merged. -/
import Derived.Test.YteoeolfcpmalfaaGreatDoorRows
import Derived.Test.YteoeolfcpmalfaaGreatDoorQ14
import Derived.Test.YteoeolfcpmalfaaGreatDoorQ15
import Derived.LaidMore
import Derived.Stop.Joined
import Derived.WideShapes
import Derived.Test.YteoeolfcpmalfaaGreatDoorQ13
namespace Go.Ax.Cd
open Go.Proofs Go.RowKit Go.ChangeShapes Go.WideShapes Go.Proofs.YteoeolfcpmalfaaGreatDoor
set_option linter.unusedVariables false
set_option maxRecDepth 100000
theorem in64_of {n : Int} (h : (Lit.int .i64 n).wf = true) : In64 n := by
 have h1 : IntKind.i64.min = -9223372036854775808 := by decide
 have h2 : IntKind.i64.max = 9223372036854775807 := by decide
 simp only [Lit.wf, Bool.and_eq_true, decide_eq_true_eq, h1, h2] at h
 exact h
theorem gSides : (Tryz.prog : Program).globalNamed "tendril/code.sides" = some 0 := by kernel_rfl
theorem tSides : ((Tryz.prog : Program).globals[0]?).map (·.type) = some 98 := by kernel_rfl
theorem c97 : (Tryz.prog : Program).cellsOf 97 = 4 := by kernel_rfl
theorem c98 : (Tryz.prog : Program).cellsOf 98 = 8 := by kernel_rfl
theorem c3 : (Tryz.prog : Program).cellsOf 3 = 1 := by kernel_rfl
theorem oCfg : OpE Tryz.prog 23 (.st .cfg) (fun _ => True) :=
 OpE.st (s := .cfg) (wf := fun _ => True) (OpF.struct Tryz.underlying23 (by kernel_rfl)
  (OpFs.cons (ks := [.int]) (ls := [.int, .int, .int, .int]) (wb := fun _ => True) rfl rfl c3 (OpF.int Tryz.underlying3) (OpFs.cons (ks := [.int]) (ls := [.int, .int, .int]) (wb := fun _ => True) rfl rfl c3 (OpF.int Tryz.underlying3) (OpFs.cons (ks := [.int]) (ls := [.int, .int]) (wb := fun _ => True) rfl rfl c3 (OpF.int Tryz.underlying3)
   (OpFs.cons (ks := [.int]) (ls := [.int]) (wb := fun _ => True) rfl rfl c3 (OpF.int Tryz.underlying3) (OpFs.cons (ks := [.int]) (ls := []) (wb := fun _ => True) rfl rfl c3 (OpF.int Tryz.underlying3) OpFs.nil (fun _ _ _ _ => trivial)) (fun _ _ _ _ => trivial)) (fun _ _ _ _ => trivial)) (fun _ _ _ _ => trivial)) (fun _ _ _ _ => trivial)))
def OpWf (o : Opn) : Prop := In64 o.kind ∧ In64 o.a ∧ In64 o.b ∧ In64 o.k ∧ In64 o.v
theorem oOp : OpE Tryz.prog 25 (.st .opn) OpWf :=
 OpE.st (s := .opn) (wf := fun r => In64 r.1 ∧ In64 r.2.1 ∧ In64 r.2.2.1 ∧ In64 r.2.2.2.1 ∧ In64 r.2.2.2.2.1) (OpF.struct Tryz.underlying25 (by kernel_rfl)
  (OpFs.cons (ks := [.int]) (ls := [.int, .int, .int, .int]) (wb := fun r => In64 r.1 ∧ In64 r.2.1 ∧ In64 r.2.2.1 ∧ In64 r.2.2.2.1) rfl rfl c3 (OpF.int Tryz.underlying3) (OpFs.cons (ks := [.int]) (ls := [.int, .int, .int]) (wb := fun r => In64 r.1 ∧ In64 r.2.1 ∧ In64 r.2.2.1) rfl rfl c3 (OpF.int Tryz.underlying3)
   (OpFs.cons (ks := [.int]) (ls := [.int, .int]) (wb := fun r => In64 r.1 ∧ In64 r.2.1) rfl rfl c3 (OpF.int Tryz.underlying3) (OpFs.cons (ks := [.int]) (ls := [.int]) (wb := fun r => In64 r.1) rfl rfl c3 (OpF.int Tryz.underlying3) (OpFs.cons (ks := [.int]) (ls := []) (wb := fun _ => True) rfl rfl c3 (OpF.int Tryz.underlying3) OpFs.nil
    (fun x y h _ => in64_of h)) (fun x y h h' => ⟨in64_of h, h'⟩)) (fun x y h h' => ⟨in64_of h, h'⟩)) (fun x y h h' => ⟨in64_of h, h'⟩)) (fun x y h h' => ⟨in64_of h, h'⟩)))
theorem trod_lit {H : Type} {enc : TypeId × Value → H} {w : World} {base fuel : Nat} {spare : Nat → Bool} {held : Bool} {cs : List Value} {n : Int} {p : List MemPlace} (h : DataW.trod enc Tryz.prog w base spare held fuel 3 cs = some (.lit (.int .i64 n), p)) : cs = [.int .i64 n] := by
 obtain ⟨k, rfl, e, _⟩ := DataW.trod_int Tryz.underlying3 h
 simp only [Prod.mk.injEq, DataW.lit.injEq, Lit.int.injEq, true_and] at e
 rw [e.1]
theorem trod_sid {H : Type} {enc : TypeId × Value → H} {w : World} {base fuel : Nat} {spare : Nat → Bool} {held : Bool} {cs : List Value} {a b c d : Int} {p : List MemPlace} (h : DataW.trod enc Tryz.prog w base spare held fuel 97 cs = some (.agg [.lit (.int .i64 a), .lit (.int .i64 b), .lit (.int .i64 c), .lit (.int .i64 d)], p)) :
  cs = [.int .i64 a, .int .i64 b, .int .i64 c, .int .i64 d] := by
 obtain ⟨xs, n, _, e, hl, hn, hf⟩ := DataW.trod_struct Tryz.underlying97 h
 rw [c97] at hl
 simp only [Prod.mk.injEq, DataW.agg.injEq] at e
 have hn4 : xs.length = 4 := hn
 match xs, hn4, cs, hl with
 | [x0, x1, x2, x3], _, [v0, v1, v2, v3], _ =>
  simp only [List.map_cons, List.map_nil, List.cons.injEq, and_true] at e
  obtain ⟨⟨e0, e1, e2, e3⟩, _⟩ := e
  have f0 := hf 0 _ rfl
  have f1 := hf 1 _ rfl
  have f2 := hf 2 _ rfl
  have f3 := hf 3 _ rfl
  obtain ⟨x0, p0⟩ := x0
  obtain ⟨x1, p1⟩ := x1
  obtain ⟨x2, p2⟩ := x2
  obtain ⟨x3, p3⟩ := x3
  simp only at e0 e1 e2 e3
  subst e0 e1 e2 e3
  simp [c3] at f0 f1 f2 f3
  have g0 := trod_lit f0
  have g1 := trod_lit f1
  have g2 := trod_lit f2
  have g3 := trod_lit f3
  simp at g0 g1 g2 g3
  rw [g0, g1, g2, g3]
theorem glo_of {W : World} (h : laidMetH Tryz.prog [("tendril/code.sides", Rows.laid_tendril_code_sides)] W) : Glo gl W (Old W) := by
 rw [MakeChecks.laidMetH_plain _ _ _ (by kernel_rfl)] at h
 obtain ⟨ps, ⟨g0, t0, cs0, f0, p0, q0, hg0, ht0, hv0, hd0, _, _⟩, _⟩ := h
 obtain rfl := Option.some.inj (gSides.symm.trans hg0)
 obtain rfl := Option.some.inj (tSides.symm.trans ht0)
 obtain ⟨xs, m, _, e, hl, hn, hel⟩ := DataW.trod_array Tryz.underlying98 hd0
 have hcs : cs0.toList = [.int .i64 1, .int .i64 3, .int .i64 1, .int .i64 2, .int .i64 2, .int .i64 4, .int .i64 2, .int .i64 1] := by
  rw [c98] at hl
  simp only [Prod.mk.injEq, Rows.laid_tendril_code_sides, DataW.agg.injEq] at e
  match xs, hn with
  | [x0, x1], _ =>
   simp only [List.map_cons, List.map_nil, List.cons.injEq, and_true] at e
   obtain ⟨⟨e0, e1⟩, _⟩ := e
   have f0 := hel 0 (by omega)
   have f1 := hel 1 (by omega)
   obtain ⟨x0, p0⟩ := x0
   obtain ⟨x1, p1⟩ := x1
   simp only at e0 e1
   subst e0 e1
   simp [c97] at f0 f1
   have g0 := trod_sid f0
   have g1 := trod_sid f1
   have : cs0.toList = cs0.toList.take 4 ++ (cs0.toList.drop 4).take 4 := by
    rw [List.take_of_length_le (l := cs0.toList.drop 4) (by simp at hl ⊢; omega), List.take_append_drop]
   rw [this]
   rw [g0, g1]
   rfl
 have hcell : ∀ (j : Nat) (u : Value), cs0.toList[j]? = some u → W.cell? ⟨0, 0 + j, none⟩ = some u := fun j u hu => by
  have := World.var?_cell hg0 hv0 j
  rw [Nat.zero_add, this]
  simpa using hu
 intro g x hx
 match g, hx with
 | 0, hx =>
  cases hx
  refine ⟨cs0.toList, ?_, ?_, hcell⟩
  ·have h0 := hcell 0 (.int .i64 1) (by rw [hcs]; rfl)
   unfold World.cell? at h0
   split at h0
   ·rename_i hb
    exact (Array.getElem?_eq_some_iff.1 hb).1
   ·cases h0
  ·rw [hcs]
   refine .st .sides _ _ rfl (fun j k y c h1 h2 =>?_)
   match j, h1, h2 with
   | 0, h1, h2 | 1, h1, h2 | 2, h1, h2 | 3, h1, h2 | 4, h1, h2 | 5, h1, h2 | 6, h1, h2 | 7, h1, h2 => cases h1; cases h2; exact .int _
   | j + 8, h1, h2 => simp at h2
theorem slice_spot {P : Program} {w : World} {r : Reach} {base : Nat} {t e : TypeId} {A : Option Addr} {len cap : Nat} (ht : P.underlying t = some (.slice e)) (h : Value.okWide P w r base t (.slice A len cap)) : ∀ a, A = some a → a.spot = none ∧ a.block < w.heap.size := by
 rintro a rfl
 simp only [Value.okWide, ht, Cell.okWide, Cell.ok, World.has] at h
 obtain ⟨_, _, _, h2, row, cells, h3, _⟩ := h
 refine ⟨h2, ?_⟩
 unfold World.shape? at h3
 split at h3
 ·rename_i hb
  exact (Array.getElem?_eq_some_iff.1 hb).1
 ·cases h3
open Go.Proofs
noncomputable def runX (f : Func) (vs : List Vh) (os : List OSh) (rs : List Vh) (os' : List OSh) (G : List (Nat × Con)) (Lc : List (Nat × LCon)) (nh : List (Nat × List NilH)) (x : VhL (.s (.ownC 0) :: vs) × OShL os) : Option (VhL (.s (.ownC 0) :: rs) × OShL os') :=
 exec Tryz.prog gl kd G os.length plan Lc nh (body f) (startSt f.ntmps (.s (.ownC 0) :: vs) os x) (finX Tryz.prog os.length f.results.toList rs os')
theorem cxk {f : Nat} {fn : Func} {vs : List Vh} {os : List OSh} {rs : List Vh} {os' : List OSh} {G : List (Nat × Con)} {Lc : List (Nat × LCon)} {nh : List (Nat × List NilH)} (I : PIf (VhL (.s (.ownC 0) :: vs) × OShL os) (VhL (.s (.ownC 0) :: rs) × OShL os')) (J : PIf (VhL (.s (.own 0) :: vs) × OShL os) (VhL rs × OShL os'))
  (hG : GOk Tryz.prog gl G) (hf : (Tryz.prog : Program).funcs[f]? = some fn) (hb : fn.body = some (body fn)) (hL : LcOk Tryz.prog gl os.length Lc (body fn)) (hx : ∀ x, runX fn vs os rs os' G Lc nh x = PIf.spec I x)
  (hIJ : ∀ c0 x o y, PIf.spec J (((), x), o) = some y → PIf.spec I ((c0, x), o) = some ((c0, y.1), y.2)) : Sound Tryz.prog gl f (Con.fx vs os rs os' (PIf.spec J)) :=
 conX_ok (os := os) hm hG plan_ok hf hb (res := fn.results.toList) (by simp) (Lc := Lc) hL (fun c0 x o y hy => (hx _).trans (hIJ c0 x o y hy))
end Go.Ax.Cd
namespace Go.Ax
open Go.RowKit
@[reducible] def Sh.Fn (R : Type) : Sh → Type
 | .e k => k.T → R
 | .sln k => List k.T → R
 | .lent k => List k.T → R
 | .ownC _ => Value → R
 | _ => R
@[reducible] def Sh.un {R : Type} : (h : Sh) → h.Fn R → h.T → R
 | .e _, g, x => g x
 | .sln _, g, x => g x
 | .lent _, g, x => g x
 | .ownC _, g, x => g x
 | .ptr _ _, g, _ => g
 | .own _, g, _ => g
 | .any, g, _ => g
@[reducible] def ShL.Fn (R : Type) : List Sh → Type
 | [] => R
 | h :: r => h.Fn (ShL.Fn R r)
@[reducible] def ShL.un {R : Type} : (l : List Sh) → ShL.Fn R l → ShL l → R
 | [], g, _ => g
 | h :: r, g, x => ShL.un r (h.un g x.1) x.2
@[reducible] def Vh.Fn (R : Type) : Vh → Type
 | .s h => h.Fn R
 | .agg l => ShL.Fn R l
 | .clo _ l => ShL.Fn R l
@[reducible] def Vh.un {R : Type} : (h : Vh) → h.Fn R → h.T → R
 | .s h, g, x => h.un g x
 | .agg l, g, x => ShL.un l g x
 | .clo _ l, g, x => ShL.un l g x
@[reducible] def VhL.Fn (R : Type) : List Vh → Type
 | [] => R
 | h :: r => h.Fn (VhL.Fn R r)
@[reducible] def VhL.un {R : Type} : (l : List Vh) → VhL.Fn R l → VhL l → R
 | [], g, _ => g
 | h :: r, g, x => VhL.un r (h.un g x.1) x.2
@[reducible] def OSh.Fn (R : Type) : OSh → Type
 | .box l => ShL.Fn R l
 | .arr e => List e.T → R
 | .any => R
@[reducible] def OSh.un {R : Type} : (h : OSh) → h.Fn R → h.T → R
 | .box l, g, x => ShL.un l g x
 | .arr _, g, x => g x
 | .any, g, _ => g
@[reducible] def OShL.Fn (R : Type) : List OSh → Type
 | [] => R
 | h :: r => h.Fn (OShL.Fn R r)
@[reducible] def OShL.un {R : Type} : (l : List OSh) → OShL.Fn R l → OShL l → R
 | [], g, _ => g
 | h :: r, g, x => OShL.un r (h.un g x.1) x.2
@[reducible] def un {R : Type} (vs : List Vh) (os : List OSh) (g : VhL.Fn (OShL.Fn R os) vs) (x : VhL vs × OShL os) : R := OShL.un os (VhL.un vs g x.1) x.2
end Go.Ax
namespace Go.Ax.Cd
open Go.Proofs
set_option linter.unusedVariables false
structure Fe where
 n : Nat
 f : Func
 vs : List Vh
 os : List OSh
 rs : List Vh
 os' : List OSh
@[reducible] def Fe.X (e : Fe) : Type := VhL e.vs × OShL e.os
@[reducible] def Fe.Y (e : Fe) : Type := VhL e.rs × OShL e.os'
@[reducible] def Fe.T (e : Fe) : Type := e.X → Option e.Y
@[reducible] def Fe.un (e : Fe) (g : VhL.Fn (OShL.Fn (Option e.Y) e.os) e.vs) : e.T := Go.Ax.un e.vs e.os g
@[reducible] def Fe.on (e : Fe) (sp : e.T) : Nat × Con := (e.n, Con.of e.vs e.os e.rs e.os' sp)
structure Fe.Ok (e : Fe) (sp : e.T) : Prop where
 c : Callable Tryz.prog e.n
 s : Sound Tryz.prog gl e.n (Con.of e.vs e.os e.rs e.os' sp)
theorem Fe.Ok.k {e : Fe} {sp : e.T} (h : e.Ok sp) {G : List (Nat × Con)} (hG : GOk Tryz.prog gl G) : GOk Tryz.prog gl (e.on sp :: G) := GOk.cons h.c h.s hG
noncomputable def Fe.run (e : Fe) (G : List (Nat × Con)) (Lc : List (Nat × LCon)) (nh : List (Nat × List NilH)) (x : e.X) : Option e.Y := runN e.f e.vs e.os e.rs e.os' G Lc nh x
theorem Fe.k {e : Fe} {sp : e.T} {G : List (Nat × Con)} {Lc : List (Nat × LCon)} {nh : List (Nat × List NilH)} (hw : ((Tryz.prog : Program).funcs[e.n]?, (e.f.name == "runtime.NumGoroutine"), e.f.body) = (some e.f, false, some (body e.f))) (hG : GOk Tryz.prog gl G) (hL : LcOk Tryz.prog gl e.os.length Lc (body e.f)) (hx : ∀ x, e.run G Lc nh x = sp x) : e.Ok sp :=
by
 obtain ⟨h1, h2⟩ := Prod.mk.inj hw
 obtain ⟨h2, h3⟩ := Prod.mk.inj h2
 exact ⟨⟨_, _, h1, h2, h3⟩, cnk hG h1 h3 hL hx⟩
structure Le where
 n0 : Nat
 f : Func
 i : Nat
 ts : List Nat
 vs : List Vh
 os : List OSh
 fin : Fin
@[reducible] def Le.X (e : Le) : Type := VhL e.vs × OShL e.os
@[reducible] def Le.T (e : Le) : Type := e.X → Option e.fin.Y
@[reducible] def Le.un (e : Le) (g : VhL.Fn (OShL.Fn (Option (e.X ⊕ e.fin.Y)) e.os) e.vs) : e.X → Option (e.X ⊕ e.fin.Y) := Go.Ax.un e.vs e.os g
@[reducible] def Le.on (e : Le) (sp : e.T) : LCon := LCon.of e.f.ntmps e.ts e.vs e.os e.fin sp
noncomputable def Le.run (e : Le) (G : List (Nat × Con)) (Lc : List (Nat × LCon)) (nh : List (Nat × List NilH)) (x : e.X) : Option (e.X ⊕ e.fin.Y) := runW e.n0 e.f e.i e.ts e.vs e.os e.fin G Lc nh x
def Le.Ok (e : Le) (sp : e.T) : Prop := LOk Tryz.prog gl e.n0 (e.on sp) (getL (body e.f) e.i)
theorem f1 {n0 n : Nat} {e0 : AEx} {ts : List Nat} {vs : List Vh} {os : List OSh} : (Fin.one n0 n e0 ts vs os).Ok gl n0 n := Fin.one_ok e0 ts vs os
theorem fp {n0 n : Nat} {t : TypeId} {h : Vh} {os : List OSh} : (Fin.pan n0 t h os).Ok gl n0 n := Fin.pan_ok t h os
theorem fo {n0 n : Nat} {f g : Fin} (hf : f.Ok gl n0 n) (hg : g.Ok gl n0 n) : (f.or g).Ok gl n0 n := Fin.or_ok hf hg
theorem g0 : GOk Tryz.prog gl [] := GOk.nil
def Le.lp (e : Le) (r : e.X → Option (e.X ⊕ e.fin.Y)) : e.T := fun x => loopF r FU x
theorem Le.k {e : Le} {G : List (Nat × Con)} {Lc : List (Nat × LCon)} {nh : List (Nat × List NilH)} {r : e.X → Option (e.X ⊕ e.fin.Y)} (hf : e.fin.Ok gl e.n0 e.f.ntmps) (hG : GOk Tryz.prog gl G) (hL : LcOk Tryz.prog gl e.n0 Lc (getL (body e.f) e.i)) (hx : ∀ x, e.run G Lc nh x = r x) : e.Ok (e.lp r) :=
 lwk hG hL hf fun x y h => ⟨FU, (congrArg (fun r => loopF r FU x) (funext hx)).trans h⟩
theorem lsn {n0 : Nat} {Lc : List (Nat × LCon)} : LsAll Tryz.prog gl n0 Lc [] := trivial
theorem lsc {n0 : Nat} {e : Le} {sp : e.T} {Lc : List (Nat × LCon)} {bs : List Code} (hk : Lc.find? (fun p => p.1 == keyOf (getL (body e.f) e.i)) = some (keyOf (getL (body e.f) e.i), e.on sp)) (h : e.Ok sp) (hn : e.n0 = n0) (r : LsAll Tryz.prog gl n0 Lc bs) : LsAll Tryz.prog gl n0 Lc (getL (body e.f) e.i :: bs) := ⟨lone_ok hk (hn ▸ h), r⟩
theorem lsz {n0 : Nat} {f : Func} {i : Nat} {Lc : List (Nat × LCon)} {bs : List Code} (hk : Lc.find? (fun p => p.1 == keyOf (getL (body f) i)) = none) (r : LsAll Tryz.prog gl n0 Lc bs) : LsAll Tryz.prog gl n0 Lc (getL (body f) i :: bs) := ⟨lnone_ok hk, r⟩
open Go.Proofs
set_option linter.unusedVariables false
set_option maxRecDepth 100000
abbrev PO : List OSh := [.box [.e (.st .cfg), .e (.sl .int), .own 1, .e (.sl .int), .e .bool, .e (.st .res)], .arr (.st .acc)]
abbrev PO2 : List OSh := [.box [.e (.st .cfg), .e (.sl .int), .own 1, .e (.sl .int), .e .bool, .e (.st .res)], .arr (.st .acc), .box [.e (.st .opn)]]
abbrev PO3 : List OSh := [.box [.e (.st .cfg), .e (.sl .int), .own 1, .e (.sl .int), .e .bool, .e (.st .res)], .arr (.st .acc), .box [.e (.st .opn)], .arr .int]
abbrev PO4 : List OSh := [.box [.e (.st .cfg), .e (.sl .int), .own 1, .e (.sl .int), .e .bool, .e (.st .res)], .arr (.st .acc), .arr .int]
abbrev PS : Type := OShL PO
abbrev ps (c : Cfg) (got h : List Int) (ok : Bool) (r : Res) (d : List Acc) : PS := ((c, got, (), h, ok, r, ()), d, ())
noncomputable abbrev pHasL0E : Le := ⟨0, Tryz.f111, 0, [1, 7, 8, 9], [vi, .s (.lent .int), vi, vi], [], ((Fin.one 0 Tryz.f111.ntmps (.exit 0) [] [] []).or (Fin.one 0 Tryz.f111.ntmps .ret [4] [vb] []))⟩
noncomputable def pHasL0B (v0 : Int) (v1 : List Int) (v2 v3 : Int) : Option (pHasL0E.X ⊕ pHasL0E.fin.Y) := bif decide (v3 < v2) then bif inR v3 v1.length then bif rdE EK.int v1 v3 == v0 then some (Sum.inr (Sum.inr ((true, ()), ()))) else some (Sum.inl ((v0, v1, v2, w64 (v3 + 1), ()), ())) else none else some (Sum.inr (Sum.inl ((), ())))
noncomputable def pHasL0N : pHasL0E.T := pHasL0E.lp (pHasL0E.un (pHasL0B))
theorem pHasL0_raw (x) : pHasL0E.run [] [] [] x = pHasL0E.un (pHasL0B) x := by kernel_rfl
theorem pHasL0_ok : pHasL0E.Ok pHasL0N := Le.k (fo f1 f1) g0 (noloopN (by kernel_rfl)) (pHasL0_raw)
noncomputable abbrev pHasE : Fe := ⟨111, Tryz.f111, [.s (.lent .int), vi], [], [vb], []⟩
noncomputable def pHasB (p0 : pHasL0E.T) (s : List Int) (n : Int) : Option pHasE.Y := (p0 ((n, s, Int.ofNat s.length, 0, ()), ())).bind fun z => selim z (fun z => some ((false, ()), ())) fun z => some ((z.1.1, ()), ())
noncomputable def pHasN : pHasE.T := pHasE.un (pHasB pHasL0N)
theorem pHas_raw (p0 : pHasL0E.T) (x) : pHasE.run [] [(2, pHasL0E.on p0)] [] x = pHasE.un (pHasB p0) x := by kernel_rfl
theorem pHas_ok : pHasE.Ok pHasN := Fe.k (by kernel_rfl) g0 (lcok (by kernel_rfl) (lsc (by kernel_rfl) pHasL0_ok rfl lsn)) (pHas_raw pHasL0N)
noncomputable abbrev pSetL1E : Le := ⟨0, Tryz.f110, 1, [0, 3, 4, 5, 9, 10, 12, 13, 14], [.s (.lent .int), .s (.own 0), vi, vb, vi, vi, .s (.lent .int), vi, vi], [.arr .int], (Fin.one 0 Tryz.f110.ntmps (.exit 2) [0, 3, 4, 5, 9, 10] [.s (.lent .int), .s (.own 0), vi, vb, vi, vi] [.arr .int])⟩
noncomputable def pSetL1B (p0 : pHasE.T) (v0 : List Int) (v2 : Int) (v3 : Bool) (v4 v5 : Int) (v6 : List Int) (v7 v8 : Int) (v9 : List Int) : Option (pSetL1E.X ⊕ pSetL1E.fin.Y) := bif decide (v8 < v7) then bif inR v8 v6.length then (p0 ((v9, rdE EK.int v6 v8, ()), ())).bind fun z => bif !z.1.1 then bif !v3 then some (Sum.inl ((v0, (), rdE EK.int v6 v8, true, v4, v5, v6, v7, w64 (v8 + 1), ()), v9, ())) else bif decide (rdE EK.int v6 v8 < v2) then some (Sum.inl ((v0, (), rdE EK.int v6 v8, true, v4, v5, v6, v7, w64 (v8 + 1), ()), v9, ())) else some (Sum.inl ((v0, (), v2, v3, v4, v5, v6, v7, w64 (v8 + 1), ()), v9, ())) else some (Sum.inl ((v0, (), v2, v3, v4, v5, v6, v7, w64 (v8 + 1), ()), v9, ())) else none else some (Sum.inr ((v0, (), v2, v3, v4, v5, ()), v9, ()))
noncomputable def pSetL1N : pSetL1E.T := pSetL1E.lp (pSetL1E.un (pSetL1B pHasN))
theorem pSetL1_raw (p0 : pHasE.T) (x) : pSetL1E.run [pHasE.on p0] [] [(1, [(3, none, .int)])] x = pSetL1E.un (pSetL1B p0) x := by kernel_rfl
theorem pSetL1_ok : pSetL1E.Ok pSetL1N := Le.k f1 (pHas_ok.k g0) (noloopN (by kernel_rfl)) (pSetL1_raw pHasN)
noncomputable abbrev pSetL0E : Le := ⟨0, Tryz.f110, 0, [0, 3, 9, 10], [.s (.lent .int), .s (.own 0), vi, vi], [.arr .int], (Fin.one 0 Tryz.f110.ntmps (.exit 0) [3] [.s (.own 0)] [.arr .int])⟩
noncomputable def pSetL0B (p0 : pSetL1E.T) (v0 : List Int) (v2 v3 : Int) (v4 : List Int) : Option (pSetL0E.X ⊕ pSetL0E.fin.Y) := bif decide (v3 < v2) then (p0 ((v0, (), 0, false, v2, v3, v0, Int.ofNat v0.length, 0, ()), v4, ())).bind fun z => bif z.1.2.2.2.1 then bif decide (List.length z.2.1 + [z.1.2.2.1].length ≤ 1000000000) then some (Sum.inl ((z.1.1, (), z.1.2.2.2.2.1, w64 (z.1.2.2.2.2.2.1 + 1), ()), z.2.1 ++ [z.1.2.2.1], ())) else none else some (Sum.inl ((z.1.1, (), z.1.2.2.2.2.1, w64 (z.1.2.2.2.2.2.1 + 1), ()), z.2.1, ())) else some (Sum.inr (((), ()), v4, ()))
noncomputable def pSetL0N : pSetL0E.T := pSetL0E.lp (pSetL0E.un (pSetL0B pSetL1N))
theorem pSetL0_raw (p0 : pSetL1E.T) (x) : pSetL0E.run [] [(7, pSetL1E.on p0)] [(1, [(3, none, .int)])] x = pSetL0E.un (pSetL0B p0) x := by kernel_rfl
theorem pSetL0_ok : pSetL0E.Ok pSetL0N := Le.k f1 g0 (lcok (by kernel_rfl) (lsc (by kernel_rfl) pSetL1_ok rfl lsn)) (pSetL0_raw pSetL1N)
noncomputable abbrev pSetE : Fe := ⟨110, Tryz.f110, [.s (.lent .int)], [], [.s (.e (.sl .int))], []⟩
noncomputable def pSetB (p0 : pHasE.T) (p1 : pSetL1E.T) (p2 : pSetL0E.T) (l : List Int) : Option pSetE.Y := (p2 ((l, (), Int.ofNat l.length, 0, ()), [], ())).bind fun z => some ((z.2.1, ()), ())
noncomputable def pSetN : pSetE.T := pSetE.un (pSetB pHasN pSetL1N pSetL0N)
theorem pSet_raw (p0 : pHasE.T) (p1 : pSetL1E.T) (p2 : pSetL0E.T) (x) : pSetE.run [pHasE.on p0] [(7, pSetL1E.on p1), (3, pSetL0E.on p2)] [(1, [(3, none, .int)])] x = pSetE.un (pSetB p0 p1 p2) x := by kernel_rfl
theorem pSet_ok : pSetE.Ok pSetN := Fe.k (by kernel_rfl) (pHas_ok.k g0) (lcok (by kernel_rfl) (lsc (by kernel_rfl) pSetL0_ok rfl (lsc (by kernel_rfl) pSetL1_ok rfl lsn))) (pSet_raw pHasN pSetL1N pSetL0N)
noncomputable abbrev pWithinL0E : Le := ⟨0, Tryz.f62, 0, [1, 7, 8, 9], [.s (.e (.sl .int)), .s (.lent .int), vi, vi], [], ((Fin.one 0 Tryz.f62.ntmps (.exit 0) [] [] []).or (Fin.one 0 Tryz.f62.ntmps .ret [4] [vb] []))⟩
noncomputable def pWithinL0B (p0 : pHasE.T) (v0 v1 : List Int) (v2 v3 : Int) : Option (pWithinL0E.X ⊕ pWithinL0E.fin.Y) := bif decide (v3 < v2) then bif inR v3 v1.length then (p0 ((v0, rdE EK.int v1 v3, ()), ())).bind fun z => bif !z.1.1 then some (Sum.inr (Sum.inr ((false, ()), ()))) else some (Sum.inl ((v0, v1, v2, w64 (v3 + 1), ()), ())) else none else some (Sum.inr (Sum.inl ((), ())))
noncomputable def pWithinL0N : pWithinL0E.T := pWithinL0E.lp (pWithinL0E.un (pWithinL0B pHasN))
theorem pWithinL0_raw (p0 : pHasE.T) (x) : pWithinL0E.run [pHasE.on p0] [] [] x = pWithinL0E.un (pWithinL0B p0) x := by kernel_rfl
theorem pWithinL0_ok : pWithinL0E.Ok pWithinL0N := Le.k (fo f1 f1) (pHas_ok.k g0) (noloopN (by kernel_rfl)) (pWithinL0_raw pHasN)
noncomputable abbrev pWithinE : Fe := ⟨62, Tryz.f62, [.s (.lent .int), .s (.e (.sl .int))], [], [vb], []⟩
noncomputable def pWithinB (p0 : pHasE.T) (p1 : pWithinL0E.T) (a b : List Int) : Option pWithinE.Y := (p1 ((b, a, Int.ofNat a.length, 0, ()), ())).bind fun z => selim z (fun z => some ((true, ()), ())) fun z => some ((z.1.1, ()), ())
noncomputable def pWithinN : pWithinE.T := pWithinE.un (pWithinB pHasN pWithinL0N)
theorem pWithin_raw (p0 : pHasE.T) (p1 : pWithinL0E.T) (x) : pWithinE.run [pHasE.on p0] [(2, pWithinL0E.on p1)] [] x = pWithinE.un (pWithinB p0 p1) x := by kernel_rfl
theorem pWithin_ok : pWithinE.Ok pWithinN := Fe.k (by kernel_rfl) (pHas_ok.k g0) (lcok (by kernel_rfl) (lsc (by kernel_rfl) pWithinL0_ok rfl lsn)) (pWithin_raw pHasN pWithinL0N)
noncomputable abbrev pFailedE : Fe := ⟨40, Tryz.f40, [vi], [], [.s (.e (.st .res))], []⟩
noncomputable def pFailedB (e : Int) : Option pFailedE.Y := some ((Res.mk e 0 [] [] [], ()), ())
noncomputable def pFailedN : pFailedE.T := pFailedE.un pFailedB
theorem pFailed_raw (x) : pFailedE.run [] [] [] x = pFailedE.un (pFailedB) x := by kernel_rfl
theorem pFailed_ok : pFailedE.Ok pFailedN := Fe.k (by kernel_rfl) g0 (noloopN (by kernel_rfl)) (pFailed_raw)
noncomputable abbrev pDirE : Fe := ⟨58, Tryz.f58, [vi], [], [vi], []⟩
noncomputable def pDirB (n : Int) : Option pDirE.Y := some ((w64 (n + 1), ()), ())
noncomputable def pDirN : pDirE.T := pDirE.un pDirB
theorem pDir_raw (x) : pDirE.run [] [] [] x = pDirE.un (pDirB) x := by kernel_rfl
theorem pDir_ok : pDirE.Ok pDirN := Fe.k (by kernel_rfl) g0 (noloopN (by kernel_rfl)) (pDir_raw)
noncomputable abbrev pAskE : Fe := ⟨29, Tryz.f29, [pm, .s (.e (.st .acc))], PO, [vi], PO⟩
noncomputable def pAskB (a : Acc) (c : Cfg) (got held : List Int) (ok : Bool) (r : Res) (dd : List Acc) : Option pAskE.Y := bif !ok then some ((0, ()), ps c got held ok r dd) else bif decide (dd.length + [a].length ≤ 1000000000) then bif decide (Int.ofNat (dd ++ [a]).length > Int.ofNat got.length) then some ((0, ()), (c, got, (), held, false, r, ()), dd ++ [a], ()) else bif inR (w64 (Int.ofNat (dd ++ [a]).length - 1)) got.length then some ((rdE EK.int got (w64 (Int.ofNat (dd ++ [a]).length - 1)), ()), (c, got, (), held, ok, r, ()), dd ++ [a], ()) else none else none
noncomputable def pAskN : pAskE.T := pAskE.un pAskB
theorem pAsk_raw (x) : pAskE.run [] [] [] x = pAskE.un (pAskB) x := by kernel_rfl
theorem pAsk_ok : pAskE.Ok pAskN := Fe.k (by kernel_rfl) g0 (noloopN (by kernel_rfl)) (pAsk_raw)
noncomputable abbrev pLoadE : Fe := ⟨54, Tryz.f54, [pm, vi], PO, [vi], PO⟩
noncomputable def pLoadB (p0 : pAskE.T) (w : Int) (c : Cfg) (got held : List Int) (ok : Bool) (r : Res) (dd : List Acc) : Option pLoadE.Y := (p0 (((), Acc.mk 3 w 0 0 0 0, ()), ps c got held ok r dd)).bind fun z => some ((z.1.1, ()), z.2)
noncomputable def pLoadN : pLoadE.T := pLoadE.un (pLoadB pAskN)
theorem pLoad_raw (p0 : pAskE.T) (x) : pLoadE.run [pAskE.on p0] [] [] x = pLoadE.un (pLoadB p0) x := by kernel_rfl
theorem pLoad_ok : pLoadE.Ok pLoadN := Fe.k (by kernel_rfl) (pAsk_ok.k g0) (noloopN (by kernel_rfl)) (pLoad_raw pAskN)
noncomputable abbrev pStoreE : Fe := ⟨57, Tryz.f57, [pm, vi, vi], PO, [], PO⟩
noncomputable def pStoreB (p0 : pAskE.T) (w v : Int) (c : Cfg) (got held : List Int) (ok : Bool) (r : Res) (dd : List Acc) : Option pStoreE.Y := (p0 (((), Acc.mk 4 w 0 0 0 v, ()), ps c got held ok r dd)).bind fun z => some ((), z.2)
noncomputable def pStoreN : pStoreE.T := pStoreE.un (pStoreB pAskN)
theorem pStore_raw (p0 : pAskE.T) (x) : pStoreE.run [pAskE.on p0] [] [] x = pStoreE.un (pStoreB p0) x := by kernel_rfl
theorem pStore_ok : pStoreE.Ok pStoreN := Fe.k (by kernel_rfl) (pAsk_ok.k g0) (noloopN (by kernel_rfl)) (pStore_raw pAskN)
noncomputable abbrev pFieldE : Fe := ⟨60, Tryz.f60, [pm, vi, vi, vi], PO, [vi], PO⟩
noncomputable def pFieldB (p0 : pAskE.T) (which ref f : Int) (c : Cfg) (got held : List Int) (ok : Bool) (r : Res) (dd : List Acc) : Option pFieldE.Y := (p0 (((), Acc.mk 3 0 which ref f 0, ()), ps c got held ok r dd)).bind fun z => some ((z.1.1, ()), z.2)
noncomputable def pFieldN : pFieldE.T := pFieldE.un (pFieldB pAskN)
theorem pField_raw (p0 : pAskE.T) (x) : pFieldE.run [pAskE.on p0] [] [] x = pFieldE.un (pFieldB p0) x := by kernel_rfl
theorem pField_ok : pFieldE.Ok pFieldN := Fe.k (by kernel_rfl) (pAsk_ok.k g0) (noloopN (by kernel_rfl)) (pField_raw pAskN)
noncomputable abbrev pPutE : Fe := ⟨56, Tryz.f56, [pm, vi, vi, vi, vi], PO, [], PO⟩
noncomputable def pPutB (p0 : pAskE.T) (which ref f v : Int) (c : Cfg) (got held : List Int) (ok : Bool) (r : Res) (dd : List Acc) : Option pPutE.Y := (p0 (((), Acc.mk 4 0 which ref f v, ()), ps c got held ok r dd)).bind fun z => some ((), z.2)
noncomputable def pPutN : pPutE.T := pPutE.un (pPutB pAskN)
theorem pPut_raw (p0 : pAskE.T) (x) : pPutE.run [pAskE.on p0] [] [] x = pPutE.un (pPutB p0) x := by kernel_rfl
theorem pPut_ok : pPutE.Ok pPutN := Fe.k (by kernel_rfl) (pAsk_ok.k g0) (noloopN (by kernel_rfl)) (pPut_raw pAskN)
noncomputable abbrev pSeeE : Fe := ⟨66, Tryz.f66, [pm, vi], PO, [vi], PO⟩
noncomputable def pSeeB (p0 : pAskE.T) (n : Int) (c : Cfg) (got held : List Int) (ok : Bool) (r : Res) (dd : List Acc) : Option pSeeE.Y := (p0 (((), Acc.mk 7 n 0 0 0 0, ()), ps c got held ok r dd)).bind fun z => some ((z.1.1, ()), z.2)
noncomputable def pSeeN : pSeeE.T := pSeeE.un (pSeeB pAskN)
theorem pSee_raw (p0 : pAskE.T) (x) : pSeeE.run [pAskE.on p0] [] [] x = pSeeE.un (pSeeB p0) x := by kernel_rfl
theorem pSee_ok : pSeeE.Ok pSeeN := Fe.k (by kernel_rfl) (pAsk_ok.k g0) (noloopN (by kernel_rfl)) (pSee_raw pAskN)
noncomputable abbrev pTakeE : Fe := ⟨55, Tryz.f55, [pm, vi], PO, [vi], PO⟩
noncomputable def pTakeB (p0 : pAskE.T) (which : Int) (c : Cfg) (got held : List Int) (ok : Bool) (r : Res) (dd : List Acc) : Option pTakeE.Y := (p0 (((), Acc.mk 8 0 which 0 0 0, ()), ps c got held ok r dd)).bind fun z => some ((z.1.1, ()), z.2)
noncomputable def pTakeN : pTakeE.T := pTakeE.un (pTakeB pAskN)
theorem pTake_raw (p0 : pAskE.T) (x) : pTakeE.run [pAskE.on p0] [] [] x = pTakeE.un (pTakeB p0) x := by kernel_rfl
theorem pTake_ok : pTakeE.Ok pTakeN := Fe.k (by kernel_rfl) (pAsk_ok.k g0) (noloopN (by kernel_rfl)) (pTake_raw pAskN)
noncomputable abbrev pRetireE : Fe := ⟨65, Tryz.f65, [pm, vi, vi], PO, [], PO⟩
noncomputable def pRetireB (p0 : pAskE.T) (which ref : Int) (c : Cfg) (got held : List Int) (ok : Bool) (r : Res) (dd : List Acc) : Option pRetireE.Y := (p0 (((), Acc.mk 9 0 which ref 0 0, ()), ps c got held ok r dd)).bind fun z => some ((), z.2)
noncomputable def pRetireN : pRetireE.T := pRetireE.un (pRetireB pAskN)
theorem pRetire_raw (p0 : pAskE.T) (x) : pRetireE.run [pAskE.on p0] [] [] x = pRetireE.un (pRetireB p0) x := by kernel_rfl
theorem pRetire_ok : pRetireE.Ok pRetireN := Fe.k (by kernel_rfl) (pAsk_ok.k g0) (noloopN (by kernel_rfl)) (pRetire_raw pAskN)
noncomputable abbrev pEdgeE : Fe := ⟨61, Tryz.f61, [pm, vi], PO, [vi], PO⟩
noncomputable def pEdgeB (i : Int) (c : Cfg) (got held : List Int) (ok : Bool) (r : Res) (dd : List Acc) : Option pEdgeE.Y := some ((w64 (w64 (c.ids + 1) + i), ()), ps c got held ok r dd)
noncomputable def pEdgeN : pEdgeE.T := pEdgeE.un pEdgeB
theorem pEdge_raw (x) : pEdgeE.run [] [] [] x = pEdgeE.un (pEdgeB) x := by kernel_rfl
theorem pEdge_ok : pEdgeE.Ok pEdgeN := Fe.k (by kernel_rfl) g0 (noloopN (by kernel_rfl)) (pEdge_raw)
noncomputable abbrev pKnownE : Fe := ⟨59, Tryz.f59, [pm, vi], PO, [vb], PO⟩
noncomputable def pKnownB (n : Int) (c : Cfg) (got held : List Int) (ok : Bool) (r : Res) (dd : List Acc) : Option pKnownE.Y := bif decide (n ≥ 1) then some ((decide (n ≤ c.ids), ()), ps c got held ok r dd) else some ((false, ()), ps c got held ok r dd)
noncomputable def pKnownN : pKnownE.T := pKnownE.un pKnownB
theorem pKnown_raw (x) : pKnownE.run [] [] [] x = pKnownE.un (pKnownB) x := by kernel_rfl
theorem pKnown_ok : pKnownE.Ok pKnownN := Fe.k (by kernel_rfl) g0 (noloopN (by kernel_rfl)) (pKnown_raw)
noncomputable abbrev pLatchL0E : Le := ⟨2, Tryz.f53, 0, [0, 14, 15, 16], [pm, .s (.e (.sl .int)), vi, vi], PO, (Fin.one 2 Tryz.f53.ntmps (.exit 0) [] [] PO)⟩
noncomputable def pLatchL0B (p0 : pAskE.T) (v1 : List Int) (v2 v3 : Int) (c : Cfg) (got held : List Int) (ok : Bool) (r : Res) (dd : List Acc) : Option (pLatchL0E.X ⊕ pLatchL0E.fin.Y) := bif decide (v3 < v2) then bif inR v3 v1.length then (p0 (((), Acc.mk 5 (rdE EK.int v1 v3) 0 0 0 0, ()), ps c got held ok r dd)).bind fun z => some (Sum.inl (((), v1, v2, w64 (v3 + 1), ()), z.2)) else none else some (Sum.inr ((), ps c got held ok r dd))
noncomputable def pLatchL0N : pLatchL0E.T := pLatchL0E.lp (pLatchL0E.un (pLatchL0B pAskN))
theorem pLatchL0_raw (p0 : pAskE.T) (x) : pLatchL0E.run [pAskE.on p0] [] [] x = pLatchL0E.un (pLatchL0B p0) x := by kernel_rfl
theorem pLatchL0_ok : pLatchL0E.Ok pLatchL0N := Le.k f1 (pAsk_ok.k g0) (noloopN (by kernel_rfl)) (pLatchL0_raw pAskN)
noncomputable abbrev pLatchE : Fe := ⟨53, Tryz.f53, [pm, .s (.lent .int)], PO, [], PO⟩
noncomputable def pLatchB (p0 : pSetE.T) (p1 : pAskE.T) (p2 : pLatchL0E.T) (l : List Int) (c : Cfg) (got held : List Int) (ok : Bool) (r : Res) (dd : List Acc) : Option pLatchE.Y := (p0 ((l, ()), ())).bind fun z => (p2 (((), z.1.1, Int.ofNat (List.length z.1.1), 0, ()), (c, got, (), z.1.1, ok, r, ()), dd, ())).bind fun z => some ((), z.2)
noncomputable def pLatchN : pLatchE.T := pLatchE.un (pLatchB pSetN pAskN pLatchL0N)
theorem pLatch_raw (p0 : pSetE.T) (p1 : pAskE.T) (p2 : pLatchL0E.T) (x) : pLatchE.run [pSetE.on p0, pAskE.on p1] [(2, pLatchL0E.on p2)] [] x = pLatchE.un (pLatchB p0 p1 p2) x := by kernel_rfl
theorem pLatch_ok : pLatchE.Ok pLatchN := Fe.k (by kernel_rfl) (pSet_ok.k (pAsk_ok.k g0)) (lcok (by kernel_rfl) (lsc (by kernel_rfl) pLatchL0_ok rfl lsn)) (pLatch_raw pSetN pAskN pLatchL0N)
noncomputable abbrev pFreeL0E : Le := ⟨2, Tryz.f63, 0, [0, 7, 8], [pm, vi, vi], PO, (Fin.one 2 Tryz.f63.ntmps (.exit 0) [0] [pm] PO)⟩
noncomputable def pFreeL0B (p0 : pAskE.T) (v1 v2 : Int) (c : Cfg) (got held : List Int) (ok : Bool) (r : Res) (dd : List Acc) : Option (pFreeL0E.X ⊕ pFreeL0E.fin.Y) := bif decide (v2 < v1) then bif inR (w64 (w64 (Int.ofNat held.length - 1) - v2)) held.length then (p0 (((), Acc.mk 6 (rdE EK.int held (w64 (w64 (Int.ofNat held.length - 1) - v2))) 0 0 0 0, ()), ps c got held ok r dd)).bind fun z => some (Sum.inl (((), v1, w64 (v2 + 1), ()), z.2)) else none else some (Sum.inr (((), ()), ps c got held ok r dd))
noncomputable def pFreeL0N : pFreeL0E.T := pFreeL0E.lp (pFreeL0E.un (pFreeL0B pAskN))
theorem pFreeL0_raw (p0 : pAskE.T) (x) : pFreeL0E.run [pAskE.on p0] [] [] x = pFreeL0E.un (pFreeL0B p0) x := by kernel_rfl
theorem pFreeL0_ok : pFreeL0E.Ok pFreeL0N := Le.k f1 (pAsk_ok.k g0) (noloopN (by kernel_rfl)) (pFreeL0_raw pAskN)
noncomputable abbrev pFreeE : Fe := ⟨63, Tryz.f63, [pm], PO, [], PO⟩
noncomputable def pFreeB (p0 : pAskE.T) (p1 : pFreeL0E.T) (c : Cfg) (got held : List Int) (ok : Bool) (r : Res) (dd : List Acc) : Option pFreeE.Y := (p1 (((), Int.ofNat held.length, 0, ()), ps c got held ok r dd)).bind fun z => some ((), (z.2.1.1, z.2.1.2.1, (), [], z.2.1.2.2.2.2), z.2.2.1, ())
noncomputable def pFreeN : pFreeE.T := pFreeE.un (pFreeB pAskN pFreeL0N)
theorem pFree_raw (p0 : pAskE.T) (p1 : pFreeL0E.T) (x) : pFreeE.run [pAskE.on p0] [(1, pFreeL0E.on p1)] [] x = pFreeE.un (pFreeB p0 p1) x := by kernel_rfl
theorem pFree_ok : pFreeE.Ok pFreeN := Fe.k (by kernel_rfl) (pAsk_ok.k g0) (lcok (by kernel_rfl) (lsc (by kernel_rfl) pFreeL0_ok rfl lsn)) (pFree_raw pAskN pFreeL0N)
noncomputable abbrev pLeaveE : Fe := ⟨39, Tryz.f39, [pm, .s (.e (.st .res))], PO, [], PO⟩
noncomputable def pLeaveB (p0 : pAskE.T) (p1 : pFreeE.T) (x : Res) (c : Cfg) (got held : List Int) (ok : Bool) (r : Res) (dd : List Acc) : Option pLeaveE.Y := (p1 (((), ()), ps c got held ok r dd)).bind fun z => (p0 (((), Acc.mk 2 0 0 0 0 0, ()), z.2)).bind fun z => some ((), (z.2.1.1, z.2.1.2.1, (), z.2.1.2.2.2.1, z.2.1.2.2.2.2.1, x, ()), z.2.2.1, ())
noncomputable def pLeaveN : pLeaveE.T := pLeaveE.un (pLeaveB pAskN pFreeN)
theorem pLeave_raw (p0 : pAskE.T) (p1 : pFreeE.T) (x) : pLeaveE.run [pAskE.on p0, pFreeE.on p1] [] [] x = pLeaveE.un (pLeaveB p0 p1) x := by kernel_rfl
theorem pLeave_ok : pLeaveE.Ok pLeaveN := Fe.k (by kernel_rfl) (pAsk_ok.k (pFree_ok.k g0)) (noloopN (by kernel_rfl)) (pLeave_raw pAskN pFreeN)
noncomputable abbrev pAroundL1E : Le := ⟨2, Tryz.f69, 1, [0, 5, 7], [pm, .s (.own 2), vi], PO4, (Fin.one 2 Tryz.f69.ntmps (.exit 2) [5] [.s (.own 2)] PO4)⟩
noncomputable def pAroundL1B (p0 : pFieldE.T) (v2 : Int) (c : Cfg) (got held : List Int) (ok : Bool) (r : Res) (dd : List Acc) (v10 : List Int) : Option (pAroundL1E.X ⊕ pAroundL1E.fin.Y) := bif v2 != 0 then (p0 (((), 2, v2, 1, ()), ps c got held ok r dd)).bind fun z => bif decide (v10.length + [z.1.1].length ≤ 1000000000) then (p0 (((), 2, v2, 4, ()), z.2)).bind fun z1 => some (Sum.inl (((), (), z1.1.1, ()), z1.2.1, z1.2.2.1, v10 ++ [z.1.1], ())) else none else some (Sum.inr (((), ()), (c, got, (), held, ok, r, ()), dd, v10, ()))
noncomputable def pAroundL1N : pAroundL1E.T := pAroundL1E.lp (pAroundL1E.un (pAroundL1B pFieldN))
theorem pAroundL1_raw (p0 : pFieldE.T) (x) : pAroundL1E.run [pFieldE.on p0] [] [(1, [(5, none, .int)])] x = pAroundL1E.un (pAroundL1B p0) x := by kernel_rfl
theorem pAroundL1_ok : pAroundL1E.Ok pAroundL1N := Le.k f1 (pField_ok.k g0) (noloopN (by kernel_rfl)) (pAroundL1_raw pFieldN)
noncomputable abbrev pAroundL0E : Le := ⟨2, Tryz.f69, 0, [0, 1, 5, 6], [pm, vi, .s (.own 2), vi], PO4, (Fin.one 2 Tryz.f69.ntmps (.exit 0) [0, 1, 5] [pm, vi, .s (.own 2)] PO4)⟩
noncomputable def pAroundL0B (p0 : pFieldE.T) (v1 v3 : Int) (c : Cfg) (got held : List Int) (ok : Bool) (r : Res) (dd : List Acc) (v11 : List Int) : Option (pAroundL0E.X ⊕ pAroundL0E.fin.Y) := bif v3 != 0 then (p0 (((), 2, v3, 2, ()), ps c got held ok r dd)).bind fun z => bif decide (v11.length + [z.1.1].length ≤ 1000000000) then (p0 (((), 2, v3, 3, ()), z.2)).bind fun z1 => some (Sum.inl (((), v1, (), z1.1.1, ()), z1.2.1, z1.2.2.1, v11 ++ [z.1.1], ())) else none else some (Sum.inr (((), v1, (), ()), (c, got, (), held, ok, r, ()), dd, v11, ()))
noncomputable def pAroundL0N : pAroundL0E.T := pAroundL0E.lp (pAroundL0E.un (pAroundL0B pFieldN))
theorem pAroundL0_raw (p0 : pFieldE.T) (x) : pAroundL0E.run [pFieldE.on p0] [] [(1, [(5, none, .int)])] x = pAroundL0E.un (pAroundL0B p0) x := by kernel_rfl
theorem pAroundL0_ok : pAroundL0E.Ok pAroundL0N := Le.k f1 (pField_ok.k g0) (noloopN (by kernel_rfl)) (pAroundL0_raw pFieldN)
noncomputable abbrev pAroundE : Fe := ⟨69, Tryz.f69, [pm, vi], PO, [.s (.own 2)], PO4⟩
noncomputable def pAroundB (p0 : pFieldE.T) (p1 : pAroundL0E.T) (p2 : pAroundL1E.T) (rr : Int) (c : Cfg) (got held : List Int) (ok : Bool) (r : Res) (dd : List Acc) : Option pAroundE.Y := (p0 (((), 1, rr, 1, ()), ps c got held ok r dd)).bind fun z => (p1 (((), rr, (), z.1.1, ()), z.2.1, z.2.2.1, [], ())).bind fun z => (p0 (((), 1, z.1.2.1, 2, ()), z.2.1, z.2.2.1, ())).bind fun z1 => (p2 (((), (), z1.1.1, ()), z1.2.1, z1.2.2.1, z.2.2.2.1, ())).bind fun z => some (((), ()), z.2.1, z.2.2.1, z.2.2.2.1, ())
noncomputable def pAroundN : pAroundE.T := pAroundE.un (pAroundB pFieldN pAroundL0N pAroundL1N)
theorem pAround_raw (p0 : pFieldE.T) (p1 : pAroundL0E.T) (p2 : pAroundL1E.T) (x) : pAroundE.run [pFieldE.on p0] [(3, pAroundL0E.on p1), (7, pAroundL1E.on p2)] [(1, [(5, none, .int)])] x = pAroundE.un (pAroundB p0 p1 p2) x := by kernel_rfl
theorem pAround_ok : pAroundE.Ok pAroundN := Fe.k (by kernel_rfl) (pField_ok.k g0) (lcok (by kernel_rfl) (lsc (by kernel_rfl) pAroundL0_ok rfl (lsc (by kernel_rfl) pAroundL1_ok rfl lsn))) (pAround_raw pFieldN pAroundL0N pAroundL1N)
noncomputable abbrev pUnlinkL0E : Le := ⟨2, Tryz.f64, 0, [0, 2, 4, 11, 12], [pm, vi, vi, vi, vi], PO, ((Fin.one 2 Tryz.f64.ntmps (.exit 0) [] [] PO).or (Fin.one 2 Tryz.f64.ntmps .ret [] [] PO))⟩
noncomputable def pUnlinkL0B (p0 : pFieldE.T) (p1 : pPutE.T) (v1 v2 v3 v4 : Int) (c : Cfg) (got held : List Int) (ok : Bool) (r : Res) (dd : List Acc) : Option (pUnlinkL0E.X ⊕ pUnlinkL0E.fin.Y) := bif v3 != 0 then bif ok then (p0 (((), 2, v3, v1, ()), ps c got held ok r dd)).bind fun z => bif z.1.1 == v2 then (p1 (((), 2, v3, v1, v4, ()), z.2)).bind fun z => some (Sum.inr (Sum.inr ((), z.2))) else some (Sum.inl (((), v1, v2, z.1.1, v4, ()), z.2)) else some (Sum.inr (Sum.inl ((), ps c got held ok r dd))) else some (Sum.inr (Sum.inl ((), ps c got held ok r dd)))
noncomputable def pUnlinkL0N : pUnlinkL0E.T := pUnlinkL0E.lp (pUnlinkL0E.un (pUnlinkL0B pFieldN pPutN))
theorem pUnlinkL0_raw (p0 : pFieldE.T) (p1 : pPutE.T) (x) : pUnlinkL0E.run [pFieldE.on p0, pPutE.on p1] [] [] x = pUnlinkL0E.un (pUnlinkL0B p0 p1) x := by kernel_rfl
theorem pUnlinkL0_ok : pUnlinkL0E.Ok pUnlinkL0N := Le.k (fo f1 f1) (pField_ok.k (pPut_ok.k g0)) (noloopN (by kernel_rfl)) (pUnlinkL0_raw pFieldN pPutN)
noncomputable abbrev pUnlinkE : Fe := ⟨64, Tryz.f64, [pm, vi, vi, vi, vi], PO, [], PO⟩
noncomputable def pUnlinkB (p0 : pDirE.T) (p1 : pLoadE.T) (p2 : pFieldE.T) (p3 : pPutE.T) (p4 : pUnlinkL0E.T) (head next n rr : Int) (c : Cfg) (got held : List Int) (ok : Bool) (r : Res) (dd : List Acc) : Option pUnlinkE.Y := (p0 ((n, ()), ())).bind fun z => (p1 (((), z.1.1, ()), ps c got held ok r dd)).bind fun z => (p2 (((), 1, z.1.1, head, ()), z.2)).bind fun z1 => (p2 (((), 2, rr, next, ()), z1.2)).bind fun z2 => bif z1.1.1 == rr then (p3 (((), 1, z.1.1, head, z2.1.1, ()), z2.2)).bind fun z => some ((), z.2) else (p4 (((), next, rr, z1.1.1, z2.1.1, ()), z2.2)).bind fun z => selim z (fun z => some ((), z.2)) fun z => some ((), z.2)
noncomputable def pUnlinkN : pUnlinkE.T := pUnlinkE.un (pUnlinkB pDirN pLoadN pFieldN pPutN pUnlinkL0N)
theorem pUnlink_raw (p0 : pDirE.T) (p1 : pLoadE.T) (p2 : pFieldE.T) (p3 : pPutE.T) (p4 : pUnlinkL0E.T) (x) : pUnlinkE.run [pDirE.on p0, pLoadE.on p1, pFieldE.on p2, pPutE.on p3] [(5, pUnlinkL0E.on p4)] [] x = pUnlinkE.un (pUnlinkB p0 p1 p2 p3 p4) x := by kernel_rfl
theorem pUnlink_ok : pUnlinkE.Ok pUnlinkN := Fe.k (by kernel_rfl) (pDir_ok.k (pLoad_ok.k (pField_ok.k (pPut_ok.k g0)))) (lcok (by kernel_rfl) (lsc (by kernel_rfl) pUnlinkL0_ok rfl lsn)) (pUnlink_raw pDirN pLoadN pFieldN pPutN pUnlinkL0N)
noncomputable abbrev pMoveL0E : Le := ⟨2, Tryz.f70, 0, [0, 1, 3, 4, 5, 6, 14, 15, 16], [pm, vi, vi, vi, vi, vi, vi, vi, vi], PO, (Fin.one 2 Tryz.f70.ntmps (.exit 0) [0, 1, 3, 4, 14, 15] [pm, vi, vi, vi, vi, vi] PO)⟩
noncomputable def pMoveL0B (p0 : pFieldE.T) (p1 : pPutE.T) (v1 v2 v3 v4 v5 v6 v7 v8 : Int) (c : Cfg) (got held : List Int) (ok : Bool) (r : Res) (dd : List Acc) : Option (pMoveL0E.X ⊕ pMoveL0E.fin.Y) := bif v8 != 0 then bif ok then (p1 (((), 2, v8, v4, v5, ()), ps c got held ok r dd)).bind fun z => (p0 (((), 2, v8, v3, ()), z.2)).bind fun z => some (Sum.inl (((), v1, v2, v3, v4, v5, v6, v8, z.1.1, ()), z.2)) else some (Sum.inr (((), v1, v2, v3, v6, v7, ()), ps c got held ok r dd)) else some (Sum.inr (((), v1, v2, v3, v6, v7, ()), ps c got held ok r dd))
noncomputable def pMoveL0N : pMoveL0E.T := pMoveL0E.lp (pMoveL0E.un (pMoveL0B pFieldN pPutN))
theorem pMoveL0_raw (p0 : pFieldE.T) (p1 : pPutE.T) (x) : pMoveL0E.run [pFieldE.on p0, pPutE.on p1] [] [] x = pMoveL0E.un (pMoveL0B p0 p1) x := by kernel_rfl
theorem pMoveL0_ok : pMoveL0E.Ok pMoveL0N := Le.k f1 (pField_ok.k (pPut_ok.k g0)) (noloopN (by kernel_rfl)) (pMoveL0_raw pFieldN pPutN)
noncomputable abbrev pMoveE : Fe := ⟨70, Tryz.f70, [pm, vi, vi, vi, vi, vi, vi], PO, [], PO⟩
noncomputable def pMoveB (p0 : pFieldE.T) (p1 : pPutE.T) (p2 : pMoveL0E.T) (a b head next e id : Int) (c : Cfg) (got held : List Int) (ok : Bool) (r : Res) (dd : List Acc) : Option pMoveE.Y := (p0 (((), 1, b, head, ()), ps c got held ok r dd)).bind fun z => (p2 (((), a, head, next, e, id, z.1.1, 0, z.1.1, ()), z.2.1, z.2.2.1, ())).bind fun z => bif z.1.2.2.2.2.1 != 0 then (p0 (((), 1, z.1.2.1, z.1.2.2.1, ()), z.2.1, z.2.2.1, ())).bind fun z1 => (p1 (((), 2, z.1.2.2.2.2.2.1, z.1.2.2.2.1, z1.1.1, ()), z1.2.1, z1.2.2.1, ())).bind fun z2 => (p1 (((), 1, z.1.2.1, z.1.2.2.1, z.1.2.2.2.2.1, ()), z2.2.1, z2.2.2.1, ())).bind fun z => some ((), z.2.1, z.2.2.1, ()) else some ((), z.2.1, z.2.2.1, ())
noncomputable def pMoveN : pMoveE.T := pMoveE.un (pMoveB pFieldN pPutN pMoveL0N)
theorem pMove_raw (p0 : pFieldE.T) (p1 : pPutE.T) (p2 : pMoveL0E.T) (x) : pMoveE.run [pFieldE.on p0, pPutE.on p1] [(3, pMoveL0E.on p2)] [] x = pMoveE.un (pMoveB p0 p1 p2) x := by kernel_rfl
theorem pMove_ok : pMoveE.Ok pMoveN := Fe.k (by kernel_rfl) (pField_ok.k (pPut_ok.k g0)) (lcok (by kernel_rfl) (lsc (by kernel_rfl) pMoveL0_ok rfl lsn)) (pMove_raw pFieldN pPutN pMoveL0N)
noncomputable abbrev pAddE : Fe := ⟨30, Tryz.f30, [pm], PO, [], PO⟩
noncomputable def pAddB (p0 : pFailedE.T) (p1 : pDirE.T) (p2 : pLoadE.T) (p3 : pStoreE.T) (p4 : pPutE.T) (p5 : pTakeE.T) (p6 : pLatchE.T) (p7 : pLeaveE.T) (c : Cfg) (got held : List Int) (ok : Bool) (r : Res) (dd : List Acc) : Option pAddE.Y := (p6 (((), [0], ()), ps c got held ok r dd)).bind fun z => (p2 (((), 0, ()), z.2)).bind fun z => bif decide (z.1.1 > z.2.1.1.ids) then (p0 ((4, ()), ())).bind fun z1 => (p7 (((), z1.1.1, ()), z.2)).bind fun z => some ((), z.2) else (p5 (((), 1, ()), z.2)).bind fun z1 => bif z1.1.1 == 0 then (p0 ((3, ()), ())).bind fun z => (p7 (((), z.1.1, ()), z1.2)).bind fun z => some ((), z.2) else (p4 (((), 1, z1.1.1, 0, z.1.1, ()), z1.2)).bind fun z2 => (p4 (((), 1, z1.1.1, 1, 0, ()), z2.2)).bind fun z3 => (p4 (((), 1, z1.1.1, 2, 0, ()), z3.2)).bind fun z4 => (p4 (((), 1, z1.1.1, 3, 0, ()), z4.2)).bind fun z5 => (p3 (((), 0, w64 (z.1.1 + 1), ()), z5.2)).bind fun z6 => (p1 ((z.1.1, ()), ())).bind fun z7 => (p3 (((), z7.1.1, z1.1.1, ()), z6.2)).bind fun z8 => (p7 (((), Res.mk 0 z.1.1 [] [] [], ()), z8.2)).bind fun z => some ((), z.2)
noncomputable def pAddN : pAddE.T := pAddE.un (pAddB pFailedN pDirN pLoadN pStoreN pPutN pTakeN pLatchN pLeaveN)
theorem pAdd_raw (p0 : pFailedE.T) (p1 : pDirE.T) (p2 : pLoadE.T) (p3 : pStoreE.T) (p4 : pPutE.T) (p5 : pTakeE.T) (p6 : pLatchE.T) (p7 : pLeaveE.T) (x) : pAddE.run [pFailedE.on p0, pDirE.on p1, pLoadE.on p2, pStoreE.on p3, pPutE.on p4, pTakeE.on p5, pLatchE.on p6, pLeaveE.on p7] [] [] x = pAddE.un (pAddB p0 p1 p2 p3 p4 p5 p6 p7) x := by kernel_rfl
theorem pAdd_ok : pAddE.Ok pAddN := Fe.k (by kernel_rfl) (pFailed_ok.k (pDir_ok.k (pLoad_ok.k (pStore_ok.k (pPut_ok.k (pTake_ok.k (pLatch_ok.k (pLeave_ok.k g0)))))))) (noloopN (by kernel_rfl)) (pAdd_raw pFailedN pDirN pLoadN pStoreN pPutN pTakeN pLatchN pLeaveN)
noncomputable abbrev pLinkE : Fe := ⟨31, Tryz.f31, [pm, .s (.e (.st .opn))], PO, [], PO⟩
noncomputable def pLinkB (p0 : pFailedE.T) (p1 : pDirE.T) (p2 : pLoadE.T) (p3 : pStoreE.T) (p4 : pFieldE.T) (p5 : pPutE.T) (p6 : pTakeE.T) (p7 : pEdgeE.T) (p8 : pKnownE.T) (p9 : pLatchE.T) (p10 : pLeaveE.T) (o : Opn) (c : Cfg) (got held : List Int) (ok : Bool) (r : Res) (dd : List Acc) : Option pLinkE.Y := (p8 (((), o.a, ()), ps c got held ok r dd)).bind fun z => bif !z.1.1 then (p0 ((2, ()), ())).bind fun z1 => (p10 (((), z1.1.1, ()), z.2)).bind fun z => some ((), z.2) else (p8 (((), o.b, ()), z.2)).bind fun z => bif !z.1.1 then (p0 ((2, ()), ())).bind fun z1 => (p10 (((), z1.1.1, ()), z.2)).bind fun z => some ((), z.2) else (p9 (((), [0, o.a, o.b], ()), z.2)).bind fun z => (p1 ((o.a, ()), ())).bind fun z1 => (p2 (((), z1.1.1, ()), z.2)).bind fun z => bif z.1.1 == 0 then (p0 ((2, ()), ())).bind fun z2 => (p10 (((), z2.1.1, ()), z.2)).bind fun z => some ((), z.2) else (p1 ((o.b, ()), ())).bind fun z2 => (p2 (((), z2.1.1, ()), z.2)).bind fun z3 => bif z3.1.1 == 0 then (p0 ((2, ()), ())).bind fun z => (p10 (((), z.1.1, ()), z3.2)).bind fun z => some ((), z.2) else (p2 (((), 1, ()), z3.2)).bind fun z4 => bif decide (z4.1.1 > z4.2.1.1.edgeIds) then (p0 ((4, ()), ())).bind fun z => (p10 (((), z.1.1, ()), z4.2)).bind fun z => some ((), z.2) else (p6 (((), 2, ()), z4.2)).bind fun z5 => bif z5.1.1 == 0 then (p0 ((3, ()), ())).bind fun z => (p10 (((), z.1.1, ()), z5.2)).bind fun z => some ((), z.2) else (p5 (((), 2, z5.1.1, 0, z4.1.1, ()), z5.2)).bind fun z6 => (p5 (((), 2, z5.1.1, 1, o.a, ()), z6.2)).bind fun z7 => (p5 (((), 2, z5.1.1, 2, o.b, ()), z7.2)).bind fun z8 => (p4 (((), 1, z.1.1, 1, ()), z8.2)).bind fun z9 => (p5 (((), 2, z5.1.1, 3, z9.1.1, ()), z9.2)).bind fun z10 => (p4 (((), 1, z3.1.1, 2, ()), z10.2)).bind fun z11 => (p5 (((), 2, z5.1.1, 4, z11.1.1, ()), z11.2)).bind fun z12 => (p3 (((), 1, w64 (z4.1.1 + 1), ()), z12.2)).bind fun z13 => (p5 (((), 1, z.1.1, 1, z5.1.1, ()), z13.2)).bind fun z => (p5 (((), 1, z3.1.1, 2, z5.1.1, ()), z.2)).bind fun z => (p7 (((), z4.1.1, ()), z.2)).bind fun z => (p3 (((), z.1.1, z5.1.1, ()), z.2)).bind fun z => (p10 (((), Res.mk 0 z4.1.1 [] [] [], ()), z.2)).bind fun z => some ((), z.2)
noncomputable def pLinkN : pLinkE.T := pLinkE.un (pLinkB pFailedN pDirN pLoadN pStoreN pFieldN pPutN pTakeN pEdgeN pKnownN pLatchN pLeaveN)
theorem pLink_raw (p0 : pFailedE.T) (p1 : pDirE.T) (p2 : pLoadE.T) (p3 : pStoreE.T) (p4 : pFieldE.T) (p5 : pPutE.T) (p6 : pTakeE.T) (p7 : pEdgeE.T) (p8 : pKnownE.T) (p9 : pLatchE.T) (p10 : pLeaveE.T) (x) : pLinkE.run [pFailedE.on p0, pDirE.on p1, pLoadE.on p2, pStoreE.on p3, pFieldE.on p4, pPutE.on p5, pTakeE.on p6, pEdgeE.on p7, pKnownE.on p8, pLatchE.on p9, pLeaveE.on p10] [] [] x = pLinkE.un (pLinkB p0 p1 p2 p3 p4 p5 p6 p7 p8 p9 p10) x := by kernel_rfl
theorem pLink_ok : pLinkE.Ok pLinkN := Fe.k (by kernel_rfl) (pFailed_ok.k (pDir_ok.k (pLoad_ok.k (pStore_ok.k (pField_ok.k (pPut_ok.k (pTake_ok.k (pEdge_ok.k (pKnown_ok.k (pLatch_ok.k (pLeave_ok.k g0))))))))))) (noloopN (by kernel_rfl)) (pLink_raw pFailedN pDirN pLoadN pStoreN pFieldN pPutN pTakeN pEdgeN pKnownN pLatchN pLeaveN)
noncomputable abbrev pCutL0E : Le := ⟨2, Tryz.f32, 0, [0, 3, 4, 5, 6], [pm, .s (.ptr 2 0), vi, vi, vi], PO2, ((Fin.one 2 Tryz.f32.ntmps (.exit 0) [0, 3, 4, 5, 6] [pm, .s (.ptr 2 0), vi, vi, vi] PO2).or (Fin.one 2 Tryz.f32.ntmps .ret [] [] PO))⟩
noncomputable def pCutL0B (p0 : pWithinE.T) (p1 : pFailedE.T) (p2 : pLoadE.T) (p3 : pFieldE.T) (p4 : pEdgeE.T) (p5 : pLatchE.T) (p6 : pFreeE.T) (p7 : pLeaveE.T) (v2 v3 v4 : Int) (c : Cfg) (got held : List Int) (ok : Bool) (r : Res) (dd : List Acc) (v12 : Opn) : Option (pCutL0E.X ⊕ pCutL0E.fin.Y) := bif ok then (p5 (((), [v3, v4], ()), ps c got held ok r dd)).bind fun z => (p4 (((), v12.a, ()), z.2)).bind fun z => (p2 (((), z.1.1, ()), z.2)).bind fun z => bif z.1.1 == 0 then (p1 ((2, ()), ())).bind fun z1 => (p7 (((), z1.1.1, ()), z.2)).bind fun z => some (Sum.inr (Sum.inr ((), z.2))) else (p3 (((), 2, z.1.1, 1, ()), z.2)).bind fun z1 => (p3 (((), 2, z.1.1, 2, ()), z1.2)).bind fun z2 => (p0 (([z1.1.1, z2.1.1], z2.2.1.2.2.2.1, ()), ())).bind fun z3 => bif z3.1.1 then some (Sum.inr (Sum.inl (((), (), z.1.1, z1.1.1, z2.1.1, ()), z2.2.1, z2.2.2.1, (v12, ()), ()))) else (p6 (((), ()), z2.2)).bind fun z4 => some (Sum.inl (((), (), z.1.1, z1.1.1, z2.1.1, ()), z4.2.1, z4.2.2.1, (v12, ()), ())) else some (Sum.inr (Sum.inl (((), (), v2, v3, v4, ()), (c, got, (), held, ok, r, ()), dd, (v12, ()), ())))
noncomputable def pCutL0N : pCutL0E.T := pCutL0E.lp (pCutL0E.un (pCutL0B pWithinN pFailedN pLoadN pFieldN pEdgeN pLatchN pFreeN pLeaveN))
theorem pCutL0_raw (p0 : pWithinE.T) (p1 : pFailedE.T) (p2 : pLoadE.T) (p3 : pFieldE.T) (p4 : pEdgeE.T) (p5 : pLatchE.T) (p6 : pFreeE.T) (p7 : pLeaveE.T) (x) : pCutL0E.run [pWithinE.on p0, pFailedE.on p1, pLoadE.on p2, pFieldE.on p3, pEdgeE.on p4, pLatchE.on p5, pFreeE.on p6, pLeaveE.on p7] [] [] x = pCutL0E.un (pCutL0B p0 p1 p2 p3 p4 p5 p6 p7) x := by kernel_rfl
theorem pCutL0_ok : pCutL0E.Ok pCutL0N := Le.k (fo f1 f1) (pWithin_ok.k (pFailed_ok.k (pLoad_ok.k (pField_ok.k (pEdge_ok.k (pLatch_ok.k (pFree_ok.k (pLeave_ok.k g0)))))))) (noloopN (by kernel_rfl)) (pCutL0_raw pWithinN pFailedN pLoadN pFieldN pEdgeN pLatchN pFreeN pLeaveN)
noncomputable abbrev pCutE : Fe := ⟨32, Tryz.f32, [pm, .s (.e (.st .opn))], PO, [], PO⟩
noncomputable def pCutB (p0 : pWithinE.T) (p1 : pFailedE.T) (p2 : pLoadE.T) (p3 : pStoreE.T) (p4 : pFieldE.T) (p5 : pRetireE.T) (p6 : pEdgeE.T) (p7 : pLatchE.T) (p8 : pFreeE.T) (p9 : pLeaveE.T) (p10 : pUnlinkE.T) (p11 : pCutL0E.T) (o : Opn) (c : Cfg) (got held : List Int) (ok : Bool) (r : Res) (dd : List Acc) : Option pCutE.Y := bif decide (o.a < 1) then (p1 ((2, ()), ())).bind fun z => (p9 (((), z.1.1, ()), ps c got held ok r dd)).bind fun z => some ((), z.2.1, z.2.2.1, ()) else bif decide (o.a > c.edgeIds) then (p1 ((2, ()), ())).bind fun z => (p9 (((), z.1.1, ()), ps c got held ok r dd)).bind fun z => some ((), z.2.1, z.2.2.1, ()) else (p6 (((), o.a, ()), ps c got held ok r dd)).bind fun z => (p2 (((), z.1.1, ()), z.2.1, z.2.2.1, ())).bind fun z => bif z.1.1 == 0 then (p1 ((2, ()), ())).bind fun z1 => (p9 (((), z1.1.1, ()), z.2.1, z.2.2.1, ())).bind fun z => some ((), z.2.1, z.2.2.1, ()) else (p4 (((), 2, z.1.1, 1, ()), z.2.1, z.2.2.1, ())).bind fun z1 => (p4 (((), 2, z.1.1, 2, ()), z1.2.1, z1.2.2.1, ())).bind fun z2 => (p11 (((), (), z.1.1, z1.1.1, z2.1.1, ()), z2.2.1, z2.2.2.1, (o, ()), ())).bind fun z => selim z (fun z => (p10 (((), 1, 3, z.1.2.2.2.1, z.1.2.2.1, ()), z.2.1, z.2.2.1, ())).bind fun z3 => (p10 (((), 2, 4, z.1.2.2.2.2.1, z.1.2.2.1, ()), z3.2.1, z3.2.2.1, ())).bind fun z4 => (p6 (((), z.2.2.2.1.1.a, ()), z4.2.1, z4.2.2.1, ())).bind fun z5 => (p3 (((), z5.1.1, 0, ()), z5.2.1, z5.2.2.1, ())).bind fun z6 => (p5 (((), 2, z.1.2.2.1, ()), z6.2.1, z6.2.2.1, ())).bind fun z => (p9 (((), Res.mk 0 0 [] [] [], ()), z.2.1, z.2.2.1, ())).bind fun z => some ((), z.2.1, z.2.2.1, ())) fun z => some ((), z.2.1, z.2.2.1, ())
noncomputable def pCutN : pCutE.T := pCutE.un (pCutB pWithinN pFailedN pLoadN pStoreN pFieldN pRetireN pEdgeN pLatchN pFreeN pLeaveN pUnlinkN pCutL0N)
theorem pCut_raw (p0 : pWithinE.T) (p1 : pFailedE.T) (p2 : pLoadE.T) (p3 : pStoreE.T) (p4 : pFieldE.T) (p5 : pRetireE.T) (p6 : pEdgeE.T) (p7 : pLatchE.T) (p8 : pFreeE.T) (p9 : pLeaveE.T) (p10 : pUnlinkE.T) (p11 : pCutL0E.T) (x) : pCutE.run [pWithinE.on p0, pFailedE.on p1, pLoadE.on p2, pStoreE.on p3, pFieldE.on p4, pRetireE.on p5, pEdgeE.on p6, pLatchE.on p7, pFreeE.on p8, pLeaveE.on p9, pUnlinkE.on p10] [(8, pCutL0E.on p11)] [] x = pCutE.un (pCutB p0 p1 p2 p3 p4 p5 p6 p7 p8 p9 p10 p11) x := by kernel_rfl
theorem pCut_ok : pCutE.Ok pCutN := Fe.k (by kernel_rfl) (pWithin_ok.k (pFailed_ok.k (pLoad_ok.k (pStore_ok.k (pField_ok.k (pRetire_ok.k (pEdge_ok.k (pLatch_ok.k (pFree_ok.k (pLeave_ok.k (pUnlink_ok.k g0))))))))))) (lcok (by kernel_rfl) (lsc (by kernel_rfl) pCutL0_ok rfl lsn)) (pCut_raw pWithinN pFailedN pLoadN pStoreN pFieldN pRetireN pEdgeN pLatchN pFreeN pLeaveN pUnlinkN pCutL0N)
end Go.Ax.Cd
