/- Merged. -/
import Derived.Test.YthcfkplfmjcmoaaGreatDoorRows
import Derived.Test.YthcfkplfmjcmoaaGreatDoorQ14
import Derived.Test.YthcfkplfmjcmoaaGreatDoorQ15
import Derived.LaidMore
import Derived.Stop.Joined
import Derived.WideShapes
namespace Go.Ax.Cd
open Go.Proofs Go.RowKit Go.ChangeShapes Go.WideShapes Go.Proofs.YthcfkplfmjcmoaaGreatDoor
set_option linter.unusedVariables false
set_option maxRecDepth 100000
theorem sU {n : Int} (h : (Lit.int .i64 n).wf = true) : aM n := by
 have h1 : IntKind.i64.min = -9223372036854775808 := by decide
 have h2 : IntKind.i64.max = 9223372036854775807 := by decide
 simp only [Lit.wf, Bool.and_eq_true, decide_eq_true_eq, h1, h2] at h
 exact h
theorem gSides : (Tryz.prog : Program).globalNamed "tendril/code.sides" = some 0 := by kernel_rfl
theorem tSides : ((Tryz.prog : Program).globals[0]?).map (·.type) = some 252 := by kernel_rfl
theorem c97 : (Tryz.prog : Program).cellsOf 251 = 4 := by kernel_rfl
theorem c98 : (Tryz.prog : Program).cellsOf 252 = 8 := by kernel_rfl
theorem c3 : (Tryz.prog : Program).cellsOf 3 = 1 := by kernel_rfl
theorem oCfg : OpE Tryz.prog 23 (.st .cfg) (fun _ => True) :=
 OpE.st (s := .cfg) (wf := fun _ => True) (OpF.struct Tryz.underlying23 (by kernel_rfl)
  (OpFs.cons (ks := [.int]) (ls := [.int, .int, .int, .int]) (wb := fun _ => True) rfl rfl c3 (OpF.int Tryz.underlying3) (OpFs.cons (ks := [.int]) (ls := [.int, .int, .int]) (wb := fun _ => True) rfl rfl c3 (OpF.int Tryz.underlying3) (OpFs.cons (ks := [.int]) (ls := [.int, .int]) (wb := fun _ => True) rfl rfl c3 (OpF.int Tryz.underlying3)
   (OpFs.cons (ks := [.int]) (ls := [.int]) (wb := fun _ => True) rfl rfl c3 (OpF.int Tryz.underlying3) (OpFs.cons (ks := [.int]) (ls := []) (wb := fun _ => True) rfl rfl c3 (OpF.int Tryz.underlying3) OpFs.nil (fun _ _ _ _ => trivial)) (fun _ _ _ _ => trivial)) (fun _ _ _ _ => trivial)) (fun _ _ _ _ => trivial)) (fun _ _ _ _ => trivial)))
def OpWf (o : Opn) : Prop := aM o.kind ∧ aM o.a ∧ aM o.b ∧ aM o.k ∧ aM o.v
theorem oOp : OpE Tryz.prog 33 (.st .opn) OpWf :=
 OpE.st (s := .opn) (wf := fun r => aM r.1 ∧ aM r.2.1 ∧ aM r.2.2.1 ∧ aM r.2.2.2.1 ∧ aM r.2.2.2.2.1) (OpF.struct Tryz.underlying33 (by kernel_rfl)
  (OpFs.cons (ks := [.int]) (ls := [.int, .int, .int, .int]) (wb := fun r => aM r.1 ∧ aM r.2.1 ∧ aM r.2.2.1 ∧ aM r.2.2.2.1) rfl rfl c3 (OpF.int Tryz.underlying3) (OpFs.cons (ks := [.int]) (ls := [.int, .int, .int]) (wb := fun r => aM r.1 ∧ aM r.2.1 ∧ aM r.2.2.1) rfl rfl c3 (OpF.int Tryz.underlying3)
   (OpFs.cons (ks := [.int]) (ls := [.int, .int]) (wb := fun r => aM r.1 ∧ aM r.2.1) rfl rfl c3 (OpF.int Tryz.underlying3) (OpFs.cons (ks := [.int]) (ls := [.int]) (wb := fun r => aM r.1) rfl rfl c3 (OpF.int Tryz.underlying3) (OpFs.cons (ks := [.int]) (ls := []) (wb := fun _ => True) rfl rfl c3 (OpF.int Tryz.underlying3) OpFs.nil
    (fun x y h _ => sU h)) (fun x y h h' => ⟨sU h, h'⟩)) (fun x y h h' => ⟨sU h, h'⟩)) (fun x y h h' => ⟨sU h, h'⟩)) (fun x y h h' => ⟨sU h, h'⟩)))
theorem sV {H : Type} {enc : TypeId × Value → H} {w : World} {base fuel : Nat} {spare : Nat → Bool} {held : Bool} {cs : List Value} {n : Int} {p : List MemPlace} (h : DataW.trod enc Tryz.prog w base spare held fuel 3 cs = some (.lit (.int .i64 n), p)) : cs = [.int .i64 n] := by
 obtain ⟨k, rfl, e, _⟩ := DataW.trod_int Tryz.underlying3 h
 simp only [Prod.mk.injEq, DataW.lit.injEq, Lit.int.injEq, true_and] at e
 rw [e.1]
theorem aJt {H : Type} {enc : TypeId × Value → H} {w : World} {base fuel : Nat} {spare : Nat → Bool} {held : Bool} {cs : List Value} {a b c d : Int} {p : List MemPlace} (h : DataW.trod enc Tryz.prog w base spare held fuel 251 cs = some (.agg [.lit (.int .i64 a), .lit (.int .i64 b), .lit (.int .i64 c), .lit (.int .i64 d)], p)) :
  cs = [.int .i64 a, .int .i64 b, .int .i64 c, .int .i64 d] := by
 obtain ⟨xs, n, _, e, hl, hn, hf⟩ := DataW.trod_struct Tryz.underlying251 h
 rw [c97] at hl
 simp only [Prod.mk.injEq, DataW.agg.injEq] at e
 have hn4 : xs.length = 4 := hn
 match xs, hn4, cs, hl with
 | [x0, x1, x2, x3], _, [v0, v1, v2, v3], _ =>
  simp only [List.map_cons, List.map_nil, List.cons.injEq, and_true] at e
  obtain ⟨⟨e0, e1, e2, e3⟩, _⟩ := e
  have f0 := hf 0 _ rfl
  have f1 := hf 1 _ rfl
  have f2 := hf 2 _ rfl
  have f3 := hf 3 _ rfl
  obtain ⟨x0, p0⟩ := x0
  obtain ⟨x1, p1⟩ := x1
  obtain ⟨x2, p2⟩ := x2
  obtain ⟨x3, p3⟩ := x3
  simp only at e0 e1 e2 e3
  subst e0 e1 e2 e3
  simp [c3] at f0 f1 f2 f3
  have g0 := sV f0
  have g1 := sV f1
  have g2 := sV f2
  have g3 := sV f3
  simp at g0 g1 g2 g3
  rw [g0, g1, g2, g3]
theorem bLf {W : World} (h : laidMetH Tryz.prog [("tendril/code.sides", Rows.laid_tendril_code_sides)] W) : Glo gl W (Old W) := by
 rw [MakeChecks.laidMetH_plain _ _ _ (by kernel_rfl)] at h
 obtain ⟨ps, ⟨g0, t0, cs0, f0, p0, q0, hg0, ht0, hv0, hd0, _, _⟩, _⟩ := h
 obtain rfl := Option.some.inj (gSides.symm.trans hg0)
 obtain rfl := Option.some.inj (tSides.symm.trans ht0)
 obtain ⟨xs, m, _, e, hl, hn, hel⟩ := DataW.trod_array Tryz.underlying252 hd0
 have hcs : cs0.toList = [.int .i64 1, .int .i64 3, .int .i64 1, .int .i64 2, .int .i64 2, .int .i64 4, .int .i64 2, .int .i64 1] := by
  rw [c98] at hl
  simp only [Prod.mk.injEq, Rows.laid_tendril_code_sides, DataW.agg.injEq] at e
  match xs, hn with
  | [x0, x1], _ =>
   simp only [List.map_cons, List.map_nil, List.cons.injEq, and_true] at e
   obtain ⟨⟨e0, e1⟩, _⟩ := e
   have f0 := hel 0 (by omega)
   have f1 := hel 1 (by omega)
   obtain ⟨x0, p0⟩ := x0
   obtain ⟨x1, p1⟩ := x1
   simp only at e0 e1
   subst e0 e1
   simp [c97] at f0 f1
   have g0 := aJt f0
   have g1 := aJt f1
   have : cs0.toList = cs0.toList.take 4 ++ (cs0.toList.drop 4).take 4 := by
    rw [List.take_of_length_le (l := cs0.toList.drop 4) (by simp at hl ⊢; omega), List.take_append_drop]
   rw [this]
   rw [g0, g1]
   rfl
 have hcell : ∀ (j : Nat) (u : Value), cs0.toList[j]? = some u → W.cell? ⟨0, 0 + j, none⟩ = some u := fun j u hu => by
  have := World.var?_cell hg0 hv0 j
  rw [Nat.zero_add, this]
  simpa using hu
 intro g x hx
 match g, hx with
 | 0, hx =>
  cases hx
  refine ⟨cs0.toList, ?_, ?_, hcell⟩
  ·have h0 := hcell 0 (.int .i64 1) (by rw [hcs]; rfl)
   unfold World.cell? at h0
   split at h0
   ·rename_i hb
    exact (Array.getElem?_eq_some_iff.1 hb).1
   ·cases h0
  ·rw [hcs]
   refine .st .sides _ _ rfl (fun j k y c h1 h2 =>?_)
   match j, h1, h2 with
   | 0, h1, h2 | 1, h1, h2 | 2, h1, h2 | 3, h1, h2 | 4, h1, h2 | 5, h1, h2 | 6, h1, h2 | 7, h1, h2 => cases h1; cases h2; exact .int _
   | j + 8, h1, h2 => simp at h2
end Go.Ax.Cd
