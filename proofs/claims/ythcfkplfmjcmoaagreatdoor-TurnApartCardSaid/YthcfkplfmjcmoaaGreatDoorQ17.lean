/- Merged. -/
import Derived.Test.YthcfkplfmjcmoaaGreatDoorQ16
import Derived.Test.YthcfkplfmjcmoaaGreatDoorQ14
import Derived.SizedLaws
import Derived.Test.YthcfkplfmjcmoaaGreatDoorQ15
import Derived.Test.YthcfkplfmjcmoaaGreatDoorQ13
namespace Go.Ax
open Go.RowKit
set_option linter.unusedVariables false
theorem rE {H : Type} {P : Program} {e : TypeId} : ∀ {l : List (DataW H)} {d : DataW H}, d ∈ l → ∀ n ∈ d.weights P e, n ∈ DataW.weightsAll P e l
 | d' :: r, d, hd, n, hn => by
  simp only [DataW.weightsAll, List.mem_append]
  rcases List.mem_cons.1 hd with rfl | h
  ·exact Or.inl hn
  ·exact Or.inr (rE h n hn)
def OpW (P : Program) (t : TypeId) (k : EK) (wf : k.T → Prop) : Prop :=
 ∀ (H : Type) (enc : TypeId × Value → H) (w : World) (held : Bool) (fuel : Nat) (cs : List Value) (x : DataW H × List MemPlace),
  DataW.trod enc P w 0 (fun _ => true) held fuel t cs = some x → (∀ n ∈ x.1.weights P t, n ≤ reachBytes) → ∃ a : k.T, Rd w (Old w) k a cs ∧ wf a
theorem OpW.of {P : Program} {t : TypeId} {k : EK} {wf : k.T → Prop} (h : OpE P t k wf) : OpW P t k wf := fun H enc w held fuel cs x hx _ => h H enc w 0 _ held fuel cs x hx
theorem bHs {w : World} {a : Addr} {v : Value} (h : w.cell? a = some v) : a.spot = none ∧ a.block < w.heap.size := by
 refine ⟨World.cell?_spot h, ?_⟩
 unfold World.cell? at h
 split at h
 ·rename_i hb
  exact (Array.getElem?_eq_some_iff.1 hb).1
 ·cases h
theorem aJu {w : World} {b n i : Nat} {a : Addr} {c : List Value} (h : w.cells? b (a.add i) n = some c) (hi : i = 0) (hn : 0 < n) : a.spot = none ∧ a.block < w.heap.size := by
 obtain ⟨_, h1, h2⟩ := World.cells?_some h
 have h3 := h2 0 hn
 have h4 : 0 < c.length := by omega
 rw [List.getElem?_eq_getElem h4] at h3
 have := bHs h3
 subst hi
 simpa [Addr.add] using this
theorem OpW.sl {P : Program} {t e : TypeId} {k : EK} {wf : k.T → Prop} (ht : P.underlying t = some (.slice e)) (hc : P.cellsOf e = k.sz) (hk : 0 < k.sz) (hb : 1 ≤ P.bytesOf e) (h : OpW P e k wf) : OpW P t (.sl k) (fun l => l.length ≤ reachBytes ∧ ∀ x ∈ l, wf x) := by
 intro H enc w held fuel cs x hx hwt
 rcases DataW.trod_slice ht hx with ⟨hcs, _⟩ | ⟨a, len, cap, elems, rest, n, _, hcs, hxe, _, hl, hm, hlen, hel, hsp, _⟩
 ·subst hcs
  exact ⟨[], .nil k, Nat.zero_le _, by simp⟩
 ·subst hcs hxe
  have hbnd : len ≤ reachBytes := by
   have h1 := hwt ((elems.map (·.1)).length + (rest.map (·.1)).length) |> fun _ => hwt (((elems.map (·.1)).length + (rest.map (·.1)).length) * P.bytesOf e) (by simp [DataW.weights, ht])
   have h2 : len ≤ ((elems.map (·.1)).length + (rest.map (·.1)).length) * P.bytesOf e := by
    have := Nat.le_mul_of_pos_right ((elems.map (·.1)).length + (rest.map (·.1)).length) hb
    simp only [List.length_map] at this ⊢
    omega
   omega
  have hin : ∀ y ∈ elems, ∀ m ∈ y.1.weights P e, m ≤ reachBytes := fun y hy m hm => hwt m (by
   simp only [DataW.weights, ht, List.mem_cons, List.mem_append]
   exact .inr (.inl (rE (List.mem_map_of_mem hy) m hm)))
  have hA : 0 < cap → a.spot = none ∧ a.block < w.heap.size := fun hcap => by
   by_cases h0 : 0 < len
   ·have he := hel 0 h0
    have h1 : elems[0]? = some elems[0] := List.getElem?_eq_getElem (by omega)
    rw [h1] at he
    obtain ⟨c, hc1, _⟩ := Option.bind_eq_some_iff.1 he
    exact aJu hc1 (Nat.zero_mul _) (by omega)
   ·obtain ⟨hr1, hr2⟩ := hsp rfl
    have he := hr2 0 (by omega)
    have h1 : rest[0]? = some (rest[0]'(by omega)) := List.getElem?_eq_getElem (by omega)
    rw [h1] at he
    obtain ⟨c, hc1, _⟩ := Option.bind_eq_some_iff.1 he
    exact aJu hc1 (by rw [Nat.add_zero, show len = 0 by omega, Nat.zero_mul]) (by omega)
  by_cases hcap : 0 < cap
  case neg =>
   obtain rfl : cap = 0 := by omega
   obtain rfl : len = 0 := by omega
   exact ⟨[], .nil k _, Nat.zero_le _, by simp⟩
  obtain ⟨hs, hbl⟩ := hA hcap
  obtain ⟨ab, ao, asp⟩ := a
  simp only at hs hbl
  subst hs
  have hkey : ∀ i, i < len → ∃ p : k.T × List Value, (Rd w (Old w) k p.1 p.2 ∧ p.2.length = k.sz ∧ ∀ j u, p.2[j]? = some u → w.cell? ⟨ab, ao + i * k.sz + j, none⟩ = some u) ∧ wf p.1 := by
   intro i hi
   have he := hel i hi
   have hi' : i < elems.length := by omega
   have hy : elems[i]? = some elems[i] := List.getElem?_eq_getElem hi'
   rw [hy, hc] at he
   obtain ⟨c, hc1, hc2⟩ := Option.bind_eq_some_iff.1 he
   obtain ⟨_, hcl, hcc⟩ := World.cells?_some hc1
   obtain ⟨b, hb1, hb2⟩ := h H enc w held n c _ hc2 (hin _ (List.getElem_mem hi'))
   refine ⟨(b, c), ⟨hb1, hcl, fun j u hu =>?_⟩, hb2⟩
   have hj : j < k.sz := by
    have := (List.getElem?_eq_some_iff.1 hu).1
    simp only at this
    omega
   have := hcc j hj
   simp only at hu
   rw [hu] at this
   rw [← this]
   congr 1
   simp only [Addr.add]
   by_cases c1 : i * k.sz = 0 <;> by_cases c2 : j = 0 <;> simp [c1, c2, Nat.add_assoc]
  obtain ⟨l, hll, hr⟩ := aUq _ len hkey
  refine ⟨l.map (·.1), ?_, by simp [hll]; exact hbnd, fun b hb =>?_⟩
  ·have e1 : len = (l.map (·.1)).length := by simp [hll]
   rw [e1]
   refine .sl k _ ab ao cap (fun i => ((l[i]?).map (·.2)).getD []) hbl (by simp [hll]; exact hl) (fun i hi =>?_) (fun i hi =>?_) (fun i j v hi hv =>?_)
   ·have hi' : i < l.length := by simpa using hi
    have := (hr i _ (List.getElem?_eq_getElem hi')).1.1
    simpa [List.getElem?_eq_getElem hi'] using this
   ·have hi' : i < l.length := by simpa using hi
    have := (hr i _ (List.getElem?_eq_getElem hi')).1.2.1
    simpa [List.getElem?_eq_getElem hi'] using this
   ·have hi' : i < l.length := by simpa using hi
    simp only [List.getElem?_eq_getElem hi', Option.map_some, Option.getD_some] at hv
    exact (hr i _ (List.getElem?_eq_getElem hi')).1.2.2 j v hv
  ·obtain ⟨p, hp, rfl⟩ := List.mem_map.1 hb
   obtain ⟨i, hi⟩ := List.mem_iff_getElem?.1 hp
   exact (hr i p hi).2
end Go.Ax
namespace Go.Ax.Cd
open Go.Proofs Go.RowKit
theorem bMs : OpW Tryz.prog 24 (.sl .int) (fun l => l.length ≤ reachBytes ∧ ∀ x ∈ l, (Lit.int .i64 x).wf = true) := OpW.sl Tryz.underlying24 (by kernel_rfl) (Nat.le_refl 1) (Nat.le_of_ble_eq_true (by kernel_rfl)) (OpW.of (OpE.int Tryz.underlying3))
theorem wOps : OpW Tryz.prog 53 (.sl (.sl (.st .opn))) (fun l => l.length ≤ reachBytes ∧ ∀ x ∈ l, x.length ≤ reachBytes ∧ ∀ y ∈ x, OpWf y) :=
 OpW.sl Tryz.underlying53 (by kernel_rfl) (Nat.le_refl 1) (Nat.le_of_ble_eq_true (by kernel_rfl)) (OpW.sl Tryz.underlying47 (by kernel_rfl) (Nat.le_of_ble_eq_true (by kernel_rfl)) (Nat.le_of_ble_eq_true (by kernel_rfl)) (OpW.of oOp))
theorem aUr : reachBytes ≤ 100000000000000000 := Nat.le_of_ble_eq_true (by kernel_rfl)
open Go.Proofs
set_option linter.unusedVariables false
noncomputable def vX (f : Func) (vs : List Vh) (os : List OSh) (rs : List Vh) (os' : List OSh) (G : List (Nat × Con)) (Lc : List (Nat × LCon)) (nh : List (Nat × List NilH)) (x : VhL (.s (.ownC 0) :: vs) × OShL os) : Option (VhL (.s (.ownC 0) :: rs) × OShL os') :=
 exec Tryz.prog gl kd G os.length plan Lc nh (body f) (bX f.ntmps (.s (.ownC 0) :: vs) os x) (finX Tryz.prog os.length f.results.toList rs os')
theorem cxk {f : Nat} {fn : Func} {vs : List Vh} {os : List OSh} {rs : List Vh} {os' : List OSh} {G : List (Nat × Con)} {Lc : List (Nat × LCon)} {nh : List (Nat × List NilH)} (I : PIf (VhL (.s (.ownC 0) :: vs) × OShL os) (VhL (.s (.ownC 0) :: rs) × OShL os')) (J : PIf (VhL (.s (.own 0) :: vs) × OShL os) (VhL rs × OShL os'))
  (hG : GOk Tryz.prog gl G) (hf : (Tryz.prog : Program).funcs[f]? = some fn) (hb : fn.body = some (body fn)) (hL : eZ Tryz.prog gl os.length Lc (body fn)) (hx : ∀ x, vX fn vs os rs os' G Lc nh x = PIf.spec I x)
  (hIJ : ∀ c0 x o y, PIf.spec J (((), x), o) = some y → PIf.spec I ((c0, x), o) = some ((c0, y.1), y.2)) : aK Tryz.prog gl f (Con.fx vs os rs os' (PIf.spec J)) :=
 bHr (os := os) hm hG bI hf hb (res := fn.results.toList) (by simp) (Lc := Lc) hL (fun c0 x o y hy => (hx _).trans (hIJ c0 x o y hy))
end Go.Ax.Cd
namespace Go.Ax
open Go.RowKit
@[reducible] def Sh.Fn (R : Type) : Sh → Type
 | .e k => k.T → R
 | .sln k => List k.T → R
 | .lent k => List k.T → R
 | .ownC _ => Value → R
 | _ => R
@[reducible] def Sh.un {R : Type} : (h : Sh) → h.Fn R → h.T → R
 | .e _, g, x => g x
 | .sln _, g, x => g x
 | .lent _, g, x => g x
 | .ownC _, g, x => g x
 | .ptr _ _, g, _ => g
 | .own _, g, _ => g
 | .any, g, _ => g
 | .emp, g, _ => g
 | .nil, g, _ => g
@[reducible] def ShL.Fn (R : Type) : List Sh → Type
 | [] => R
 | h :: r => h.Fn (ShL.Fn R r)
@[reducible] def ShL.un {R : Type} : (l : List Sh) → ShL.Fn R l → ShL l → R
 | [], g, _ => g
 | h :: r, g, x => ShL.un r (h.un g x.1) x.2
@[reducible] def Vh.Fn (R : Type) : Vh → Type
 | .s h => h.Fn R
 | .agg l => ShL.Fn R l
 | .clo _ l => ShL.Fn R l
@[reducible] def Vh.un {R : Type} : (h : Vh) → h.Fn R → h.T → R
 | .s h, g, x => h.un g x
 | .agg l, g, x => ShL.un l g x
 | .clo _ l, g, x => ShL.un l g x
@[reducible] def VhL.Fn (R : Type) : List Vh → Type
 | [] => R
 | h :: r => h.Fn (VhL.Fn R r)
@[reducible] def VhL.un {R : Type} : (l : List Vh) → VhL.Fn R l → VhL l → R
 | [], g, _ => g
 | h :: r, g, x => VhL.un r (h.un g x.1) x.2
@[reducible] def OSh.Fn (R : Type) : OSh → Type
 | .box l => ShL.Fn R l
 | .arr e => List e.T → R
 | .any => R
@[reducible] def OSh.un {R : Type} : (h : OSh) → h.Fn R → h.T → R
 | .box l, g, x => ShL.un l g x
 | .arr _, g, x => g x
 | .any, g, _ => g
@[reducible] def OShL.Fn (R : Type) : List OSh → Type
 | [] => R
 | h :: r => h.Fn (OShL.Fn R r)
@[reducible] def OShL.un {R : Type} : (l : List OSh) → OShL.Fn R l → OShL l → R
 | [], g, _ => g
 | h :: r, g, x => OShL.un r (h.un g x.1) x.2
@[reducible] def un {R : Type} (vs : List Vh) (os : List OSh) (g : VhL.Fn (OShL.Fn R os) vs) (x : VhL vs × OShL os) : R := OShL.un os (VhL.un vs g x.1) x.2
end Go.Ax
namespace Go.Ax.Cd
open Go.Proofs
set_option linter.unusedVariables false
structure Fe where
 n : Nat
 f : Func
 vs : List Vh
 os : List OSh
 rs : List Vh
 os' : List OSh
@[reducible] def Fe.X (e : Fe) : Type := VhL e.vs × OShL e.os
@[reducible] def Fe.Y (e : Fe) : Type := VhL e.rs × OShL e.os'
@[reducible] def Fe.T (e : Fe) : Type := e.X → Option e.Y
@[reducible] def Fe.un (e : Fe) (g : VhL.Fn (OShL.Fn (Option e.Y) e.os) e.vs) : e.T := Go.Ax.un e.vs e.os g
@[reducible] def Fe.on (e : Fe) (sp : e.T) : Nat × Con := (e.n, Con.of e.vs e.os e.rs e.os' sp)
structure Fe.Ok (e : Fe) (sp : e.T) : Prop where
 c : Callable Tryz.prog e.n
 s : aK Tryz.prog gl e.n (Con.of e.vs e.os e.rs e.os' sp)
theorem Fe.Ok.k {e : Fe} {sp : e.T} (h : e.Ok sp) {G : List (Nat × Con)} (hG : GOk Tryz.prog gl G) : GOk Tryz.prog gl (e.on sp :: G) := GOk.cons h.c h.s hG
noncomputable def Fe.run (e : Fe) (G : List (Nat × Con)) (Lc : List (Nat × LCon)) (nh : List (Nat × List NilH)) (x : e.X) : Option e.Y := runN e.f e.vs e.os e.rs e.os' G Lc nh x
theorem Fe.k {e : Fe} {sp : e.T} {G : List (Nat × Con)} {Lc : List (Nat × LCon)} {nh : List (Nat × List NilH)} (hw : ((Tryz.prog : Program).funcs[e.n]?, (e.f.name == "runtime.NumGoroutine"), e.f.body) = (some e.f, false, some (body e.f))) (hG : GOk Tryz.prog gl G) (hL : eZ Tryz.prog gl e.os.length Lc (body e.f)) (hx : ∀ x, e.run G Lc nh x = sp x) : e.Ok sp :=
by
 obtain ⟨h1, h2⟩ := Prod.mk.inj hw
 obtain ⟨h2, h3⟩ := Prod.mk.inj h2
 exact ⟨⟨_, _, h1, h2, h3⟩, cnk hG h1 h3 hL hx⟩
structure Le where
 n0 : Nat
 f : Func
 i : Nat
 ts : List Nat
 vs : List Vh
 os : List OSh
 fin : Fin
@[reducible] def Le.X (e : Le) : Type := VhL e.vs × OShL e.os
@[reducible] def Le.T (e : Le) : Type := e.X → Option e.fin.Y
@[reducible] def Le.un (e : Le) (g : VhL.Fn (OShL.Fn (Option (e.X ⊕ e.fin.Y)) e.os) e.vs) : e.X → Option (e.X ⊕ e.fin.Y) := Go.Ax.un e.vs e.os g
@[reducible] def Le.on (e : Le) (sp : e.T) : LCon := LCon.of e.f.ntmps e.ts e.vs e.os e.fin sp
noncomputable def Le.run (e : Le) (G : List (Nat × Con)) (Lc : List (Nat × LCon)) (nh : List (Nat × List NilH)) (x : e.X) : Option (e.X ⊕ e.fin.Y) := gY e.n0 e.f e.i e.ts e.vs e.os e.fin G Lc nh x
def Le.Ok (e : Le) (sp : e.T) : Prop := LOk Tryz.prog gl e.n0 (e.on sp) (bE (body e.f) e.i)
theorem f1 {n0 n : Nat} {e0 : AEx} {ts : List Nat} {vs : List Vh} {os : List OSh} : (Fin.one n0 n e0 ts vs os).Ok gl n0 n := Fin.one_ok e0 ts vs os
theorem fp {n0 n : Nat} {t : TypeId} {h : Vh} {os : List OSh} : (Fin.pan n0 t h os).Ok gl n0 n := Fin.pan_ok t h os
theorem fo {n0 n : Nat} {f g : Fin} (hf : f.Ok gl n0 n) (hg : g.Ok gl n0 n) : (f.or g).Ok gl n0 n := Fin.or_ok hf hg
theorem g0 : GOk Tryz.prog gl [] := GOk.nil
def Le.lp (e : Le) (r : e.X → Option (e.X ⊕ e.fin.Y)) : e.T := fun x => cZ r FU x
theorem Le.k {e : Le} {G : List (Nat × Con)} {Lc : List (Nat × LCon)} {nh : List (Nat × List NilH)} {r : e.X → Option (e.X ⊕ e.fin.Y)} (hf : e.fin.Ok gl e.n0 e.f.ntmps) (hG : GOk Tryz.prog gl G) (hL : eZ Tryz.prog gl e.n0 Lc (bE (body e.f) e.i)) (hx : ∀ x, e.run G Lc nh x = r x) : e.Ok (e.lp r) :=
 lwk hG hL hf fun x y h => ⟨FU, (congrArg (fun r => cZ r FU x) (funext hx)).trans h⟩
theorem lsn {n0 : Nat} {Lc : List (Nat × LCon)} : LsAll Tryz.prog gl n0 Lc [] := trivial
theorem lsc {n0 : Nat} {e : Le} {sp : e.T} {Lc : List (Nat × LCon)} {bs : List Code} (hk : Lc.find? (fun p => p.1 == gP (bE (body e.f) e.i)) = some (gP (bE (body e.f) e.i), e.on sp)) (h : e.Ok sp) (hn : e.n0 = n0) (r : LsAll Tryz.prog gl n0 Lc bs) : LsAll Tryz.prog gl n0 Lc (bE (body e.f) e.i :: bs) := ⟨bB hk (hn ▸ h), r⟩
theorem lsz {n0 : Nat} {f : Func} {i : Nat} {Lc : List (Nat × LCon)} {bs : List Code} (hk : Lc.find? (fun p => p.1 == gP (bE (body f) i)) = none) (r : LsAll Tryz.prog gl n0 Lc bs) : LsAll Tryz.prog gl n0 Lc (bE (body f) i :: bs) := ⟨bCl hk, r⟩
open Go.Proofs
set_option linter.unusedVariables false
set_option maxRecDepth 100000
noncomputable abbrev clnE (n : Nat) (f : Func) (k : EK) : Fe := ⟨n, f, [.s (.e (.sl k))], [], [.s (.own 0)], [.arr k]⟩
noncomputable def clnN (n : Nat) (f : Func) (k : EK) : (clnE n f k).T := fun x => bif decide (x.1.1.length ≤ 1000000000) then some (((), ()), (x.1.1, ())) else none
def clnS (k : EK) (x : VhL [.s (.sln k)] × OShL []) : Option (VhL [.s (.own 0)] × OShL [.arr k]) := bif x.1.1.isEmpty then some (((), ()), ([], ())) else bif decide (([] : List k.T).length + x.1.1.length ≤ 1000000000) then some (((), ()), ([] ++ x.1.1, ())) else none
def clnM (k : EK) (x : VhL [.s .emp] × OShL []) : Option (VhL [.s (.own 0)] × OShL [.arr k]) := bif x.1.1.1.isNone then some (((), ()), ([], ())) else bif decide (([] : List k.T).length + ([] : List k.T).length ≤ 1000000000) then some (((), ()), ([] ++ [], ())) else none
theorem bCn {P : Program} {gl : Glb} {n : Nat} {f : Func} {k : EK} (h1 : aK P gl n (Con.of [.s (.sln k)] [] [.s (.own 0)] [.arr k] (clnS k))) (h2 : aK P gl n (Con.of [.s .emp] [] [.s (.own 0)] [.arr k] (clnM k))) : aK P gl n (Con.of [.s (.e (.sl k))] [] [.s (.own 0)] [.arr k] (clnN n f k)) := by
 rintro av h ⟨⟨xs, _⟩, _⟩ y hd hy ρ F L w us hR hv hg
 obtain ⟨x1, k1, hd⟩ := Option.bind_eq_some_iff.1 hd
 obtain ⟨x2, k2, hd⟩ := Option.bind_eq_some_iff.1 hd
 cases hd
 have hvs := VhL.sound k1 hv
 obtain ⟨us, rfl⟩ : ∃ u : List Value, us = u.toArray := ⟨us.toList, by simp⟩
 have hl := hvs.length
 match us, hl, hvs with
 | [v], _, hvs =>
  have hr : Rd w F (.sl k) xs [v] := by
   have : VRs ρ w F (Bx F L) [.sl k xs] [v] := hvs
   simp only [VRs, VR, and_true] at this
   exact this
  have hy2 : (bif decide (xs.length ≤ 1000000000) then some ((((), ()), (xs, ())) : VhL [.s (.own 0)] × OShL [.arr k]) else none) = some y := hy
  have hlen : xs.length ≤ 1000000000 := by
   cases e : decide (xs.length ≤ 1000000000) with
   | true => exact of_decide_eq_true e
   | false => rw [e] at hy2; cases hy2
  rw [decide_eq_true hlen] at hy2
  obtain rfl : _ = y := Option.some.inj hy2
  cases xs with
  | nil =>
   obtain ⟨A, cap, rfl, _⟩ := Rd.slice hr
   refine h2 [.con (.slice A 0 cap)] h (((A, cap), ()), ()) _ ?_ ?_ ρ F L w #[.slice A 0 cap] hR ?_ hg
   ·show fM [.s .emp] [] [AVal.con (.slice A 0 cap)] h = some (((A, cap), ()), ())
    simp [fM, VhL.dec, Vh.dec, Sh.dec, k2]
   ·cases A <;> rfl
   ·simp [VRs, VR]
  | cons z zs =>
   refine h1 [.sln k (z :: zs)] h ((z :: zs, ()), ()) _ ?_ ?_ ρ F L w #[v] hR ?_ hg
   ·show fM [.s (.sln k)] [] [AVal.sln k (z :: zs)] h = some ((z :: zs, ()), ())
    simp [fM, VhL.dec, Vh.dec, Sh.dec, k2]
   ·show (bif decide (([] : List k.T).length + (z :: zs).length ≤ 1000000000) then some ((((), ()), (z :: zs, ())) : VhL [.s (.own 0)] × OShL [.arr k]) else none) = _
    rw [decide_eq_true (by simpa using hlen)]
    rfl
   ·simp only [VRs, VR, and_true]
    exact ⟨hr, fun h => by cases h⟩
theorem aOx {n : Nat} {f : Func} {k : EK} (hw : ((Tryz.prog : Program).funcs[n]?, (f.name == "runtime.NumGoroutine"), f.body) = (some f, false, some (body f))) (hL : eZ Tryz.prog gl 0 [] (body f))
  (h1 : ∀ x, runN f [.s (.sln k)] [] [.s (.own 0)] [.arr k] [] [] [(2, [(2, none, k)])] x = clnS k x) (h2 : ∀ x, runN f [.s .emp] [] [.s (.own 0)] [.arr k] [] [] [(2, [(2, none, k)])] x = clnM k x) : (clnE n f k).Ok (clnN n f k) := by
 obtain ⟨a1, a2⟩ := Prod.mk.inj hw
 obtain ⟨a2, a3⟩ := Prod.mk.inj a2
 exact ⟨⟨_, _, a1, a2, a3⟩, bCn (cnk g0 a1 a3 hL h1) (cnk g0 a1 a3 hL h2)⟩
noncomputable abbrev clnIE : Fe := clnE 76 Tryz.f76 .int
noncomputable abbrev clnIN : clnIE.T := clnN 76 Tryz.f76 .int
theorem clnI_ok : clnIE.Ok clnIN := aOx (by kernel_rfl) (aA (by kernel_rfl)) (fun x => by kernel_rfl) (fun x => by kernel_rfl)
noncomputable abbrev tagPackE : Fe := ⟨234, Tryz.f234, [vi, vi], [], [vi, vi], []⟩
noncomputable def sW (slot gen : Int) : Option tagPackE.Y := bif decide (slot < 0) then some ((0, 1, ()), ()) else bif decide (slot ≥ 1024) then some ((0, 1, ()), ()) else bif decide (gen < 0) then some ((0, 1, ()), ()) else bif decide (gen ≥ 1099511627776) then some ((0, 1, ()), ()) else some ((w64 (w64 (aBh gen 10 + slot) + 1), 0, ()), ())
noncomputable def tagPackN : tagPackE.T := tagPackE.un sW
theorem aJv (x) : tagPackE.run [] [] [] x = tagPackE.un (sW) x := by kernel_rfl
theorem tagPack_ok : tagPackE.Ok tagPackN := Fe.k (by kernel_rfl) g0 (aA (by kernel_rfl)) (aJv)
noncomputable abbrev tagUnpE : Fe := ⟨118, Tryz.f118, [vi], [], [vi, vi, vi], []⟩
noncomputable def yH (ref : Int) : Option tagUnpE.Y := bif decide (ref < 1) then some ((0, 0, 1, ()), ()) else bif decide (aB (w64 (ref - 1)) 10 ≥ 1099511627776) then some ((0, 0, 1, ()), ()) else some ((wX (w64 (ref - 1)) 1023, aB (w64 (ref - 1)) 10, 0, ()), ())
noncomputable def tagUnpN : tagUnpE.T := tagUnpE.un yH
theorem aOy (x) : tagUnpE.run [] [] [] x = tagUnpE.un (yH) x := by kernel_rfl
theorem tagUnp_ok : tagUnpE.Ok tagUnpN := Fe.k (by kernel_rfl) g0 (aA (by kernel_rfl)) (aOy)
noncomputable abbrev latChkE : Fe := ⟨113, Tryz.f113, [vi], [], [vi], []⟩
noncomputable def yI (w : Int) : Option latChkE.Y := bif decide (w < 0) then some ((1, ()), ()) else bif decide (w > 4611686018427387904) then some ((1, ()), ()) else some ((0, ()), ())
noncomputable def latChkN : latChkE.T := latChkE.un yI
theorem aOz (x) : latChkE.run [] [] [] x = latChkE.un (yI) x := by kernel_rfl
theorem latChk_ok : latChkE.Ok latChkN := Fe.k (by kernel_rfl) g0 (aA (by kernel_rfl)) (aOz)
noncomputable abbrev latHeldE : Fe := ⟨106, Tryz.f106, [vi], [], [vb], []⟩
noncomputable def sX (p0 : latChkE.T) (w : Int) : Option latHeldE.Y := (p0 ((w, ()), ())).bind fun z => bif z.1.1 == 0 then some ((wX w 1 != 0, ()), ()) else some ((false, ()), ())
noncomputable def latHeldN : latHeldE.T := latHeldE.un (sX latChkN)
theorem aJw (p0 : latChkE.T) (x) : latHeldE.run [latChkE.on p0] [] [] x = latHeldE.un (sX p0) x := by kernel_rfl
theorem latHeld_ok : latHeldE.Ok latHeldN := Fe.k (by kernel_rfl) (latChk_ok.k g0) (aA (by kernel_rfl)) (aJw latChkN)
noncomputable abbrev latTryE : Fe := ⟨120, Tryz.f120, [vi], [], [vi, vb], []⟩
noncomputable def yJ (p0 : latChkE.T) (p1 : latHeldE.T) (w : Int) : Option latTryE.Y := (p0 ((w, ()), ())).bind fun z => bif z.1.1 != 0 then some ((w, false, ()), ()) else (p1 ((w, ()), ())).bind fun z => bif z.1.1 then some ((w, false, ()), ()) else bif w == 4611686018427387904 then some ((w, false, ()), ()) else some ((or64 w 1, true, ()), ())
noncomputable def latTryN : latTryE.T := latTryE.un (yJ latChkN latHeldN)
theorem aPa (p0 : latChkE.T) (p1 : latHeldE.T) (x) : latTryE.run [latChkE.on p0, latHeldE.on p1] [] [] x = latTryE.un (yJ p0 p1) x := by kernel_rfl
theorem latTry_ok : latTryE.Ok latTryN := Fe.k (by kernel_rfl) (latChk_ok.k (latHeld_ok.k g0)) (aA (by kernel_rfl)) (aPa latChkN latHeldN)
noncomputable abbrev latFreeE : Fe := ⟨122, Tryz.f122, [vi], [], [vi, vi], []⟩
noncomputable def sY (p0 : latChkE.T) (p1 : latHeldE.T) (w : Int) : Option latFreeE.Y := (p0 ((w, ()), ())).bind fun z => bif z.1.1 != 0 then some ((0, z.1.1, ()), ()) else (p1 ((w, ()), ())).bind fun z => bif !z.1.1 then some ((0, 2, ()), ()) else some ((w64 (w + 1), 0, ()), ())
noncomputable def latFreeN : latFreeE.T := latFreeE.un (sY latChkN latHeldN)
theorem aJx (p0 : latChkE.T) (p1 : latHeldE.T) (x) : latFreeE.run [latChkE.on p0, latHeldE.on p1] [] [] x = latFreeE.un (sY p0 p1) x := by kernel_rfl
theorem latFree_ok : latFreeE.Ok latFreeN := Fe.k (by kernel_rfl) (latChk_ok.k (latHeld_ok.k g0)) (aA (by kernel_rfl)) (aJx latChkN latHeldN)
noncomputable abbrev memInE : Fe := ⟨176, Tryz.f176, [.s (.e (.sl .int)), vi], [], [vb], []⟩
noncomputable def aGl (m : List Int) (at_ : Int) : Option memInE.Y := bif decide (at_ ≥ 0) then some ((decide (at_ < Int.ofNat m.length), ()), ()) else some ((false, ()), ())
noncomputable def memInN : memInE.T := memInE.un aGl
theorem aXc (x) : memInE.run [] [] [] x = memInE.un (aGl) x := by kernel_rfl
theorem memIn_ok : memInE.Ok memInN := Fe.k (by kernel_rfl) g0 (aA (by kernel_rfl)) (aXc)
noncomputable abbrev memLoadE : Fe := ⟨115, Tryz.f115, [.s (.e (.sl .int)), vi], [], [vi, vi], []⟩
noncomputable def sZ (p0 : memInE.T) (m : List Int) (at_ : Int) : Option memLoadE.Y := (p0 ((m, at_, ()), ())).bind fun z => bif !z.1.1 then some ((0, 1, ()), ()) else bif inR at_ m.length then some ((rdE EK.int m at_, 0, ()), ()) else none
noncomputable def memLoadN : memLoadE.T := memLoadE.un (sZ memInN)
theorem aJy (p0 : memInE.T) (x) : memLoadE.run [memInE.on p0] [] [] x = memLoadE.un (sZ p0) x := by kernel_rfl
theorem memLoad_ok : memLoadE.Ok memLoadN := Fe.k (by kernel_rfl) (memIn_ok.k g0) (aA (by kernel_rfl)) (aJy memInN)
noncomputable abbrev memStoreE : Fe := ⟨117, Tryz.f117, [.s (.e (.sl .int)), vi, vi], [], [.s (.e (.sl .int)), vi], []⟩
noncomputable def qN (p0 : clnIE.T) (p1 : memInE.T) (m : List Int) (at_ v : Int) : Option memStoreE.Y := (p1 ((m, at_, ()), ())).bind fun z => bif !z.1.1 then some (([], 1, ()), ()) else (p0 ((m, ()), ())).bind fun z => bif inR at_ (List.length z.2.1) then some ((wrE EK.int z.2.1 at_ v, 0, ()), ()) else none
noncomputable def memStoreN : memStoreE.T := memStoreE.un (qN clnIN memInN)
theorem aGm (p0 : clnIE.T) (p1 : memInE.T) (x) : memStoreE.run [clnIE.on p0, memInE.on p1] [] [] x = memStoreE.un (qN p0 p1) x := by kernel_rfl
theorem memStore_ok : memStoreE.Ok memStoreN := Fe.k (by kernel_rfl) (clnI_ok.k (memIn_ok.k g0)) (aA (by kernel_rfl)) (aGm clnIN memInN)
noncomputable abbrev plcChkE : Fe := ⟨108, Tryz.f108, [.s (.e (.st .cfg))], [], [vi], []⟩
noncomputable def aUs (c : Cfg) : Option plcChkE.Y := bif decide (List.foldl min c.nodes [c.edges, c.props, c.ids, c.edgeIds] < 1) then some ((1, ()), ()) else bif decide (List.foldl max c.nodes [c.edges, c.props] > 64) then some ((1, ()), ()) else bif decide (List.foldl max c.ids [c.edgeIds] > 64) then some ((1, ()), ()) else some ((0, ()), ())
noncomputable def plcChkN : plcChkE.T := plcChkE.un aUs
theorem aPb (x) : plcChkE.run [] [] [] x = plcChkE.un aUs x := by kernel_rfl
theorem plcChk_ok : plcChkE.Ok plcChkN := Fe.k (by kernel_rfl) g0 (aA (by kernel_rfl)) aPb
noncomputable abbrev memNewE : Fe := ⟨137, Tryz.f137, [vi], [], [.s (.own 0), vi], [.arr .int]⟩
noncomputable def yK (n : Int) : Option memNewE.Y := bif decide (n < 0) then some (((), 1, ()), [], ()) else bif decide (n > 4096) then some (((), 1, ()), [], ()) else bif decide (0 ≤ n) && decide (n ≤ 1000000000) then some (((), 0, ()), List.replicate n.toNat 0, ()) else none
noncomputable def memNewN : memNewE.T := memNewE.un yK
theorem aPc (x) : memNewE.run [] [] [(2, [(2, none, .int)])] x = memNewE.un (yK) x := by kernel_rfl
theorem memNew_ok : memNewE.Ok memNewN := Fe.k (by kernel_rfl) g0 (aA (by kernel_rfl)) (aPc)
noncomputable abbrev plcKinE : Fe := ⟨173, Tryz.f173, [.s (.e (.st .cfg))], [], [.s (.e (.st .kins))], []⟩
noncomputable def yL (c : Cfg) : Option plcKinE.Y := some ((Kins.mk (Kin.mk 0 0 0) (Kin.mk c.nodes 4 (w64 (w64 (2 + c.ids) + c.edgeIds))) (Kin.mk c.edges 5 (w64 (w64 (w64 (2 + c.ids) + c.edgeIds) + w64 (c.nodes * 4)))) (Kin.mk c.props 3 (w64 (w64 (w64 (w64 (2 + c.ids) + c.edgeIds) + w64 (c.nodes * 4)) + w64 (c.edges * 5)))) (Kin.mk 0 0 (w64 (w64 (w64 (w64 (w64 (2 + c.ids) + c.edgeIds) + w64 (c.nodes * 4)) + w64 (c.edges * 5)) + w64 (c.props * 3)))), ()), ())
noncomputable def plcKinN : plcKinE.T := plcKinE.un yL
theorem aPd (x) : plcKinE.run [] [] [] x = plcKinE.un yL x := by kernel_rfl
theorem plcKin_ok : plcKinE.Ok plcKinN := Fe.k (by kernel_rfl) g0 (bD (by kernel_rfl) (lsz (f := Tryz.f173) (i := 0) (by kernel_rfl) lsn)) aPd
noncomputable abbrev plcSizE : Fe := ⟨110, Tryz.f110, [.s (.e (.st .cfg))], [], [vi], []⟩
noncomputable def yM (p0 : plcChkE.T) (p1 : plcKinE.T) (c : Cfg) : Option plcSizE.Y := (p0 ((c, ()), ())).bind fun z => bif z.1.1 != 0 then some ((0, ()), ()) else (p1 ((c, ()), ())).bind fun z => some ((z.1.1.e.at_, ()), ())
noncomputable def plcSizN : plcSizE.T := plcSizE.un (yM plcChkN plcKinN)
theorem aPe (p0 : plcChkE.T) (p1 : plcKinE.T) (x) : plcSizE.run [plcChkE.on p0, plcKinE.on p1] [] [] x = plcSizE.un (yM p0 p1) x := by kernel_rfl
theorem plcSiz_ok : plcSizE.Ok plcSizN := Fe.k (by kernel_rfl) (plcChk_ok.k (plcKin_ok.k g0)) (aA (by kernel_rfl)) (aPe plcChkN plcKinN)
noncomputable abbrev plcNewE : Fe := ⟨94, Tryz.f94, [.s (.e (.st .cfg))], [], [.s (.e (.sl .int)), vi], []⟩
noncomputable def yN (p0 : plcChkE.T) (p1 : memNewE.T) (p2 : plcSizE.T) (c : Cfg) : Option plcNewE.Y := (p0 ((c, ()), ())).bind fun z => bif z.1.1 != 0 then some (([], z.1.1, ()), ()) else (p2 ((c, ()), ())).bind fun z => (p1 ((z.1.1, ()), ())).bind fun z => bif z.1.2.1 != 0 then some (([], z.1.2.1, ()), ()) else bif inR 0 (List.length z.2.1) then bif inR 1 (wrE EK.int z.2.1 0 1).length then some ((wrE EK.int (wrE EK.int z.2.1 0 1) 1 1, 0, ()), ()) else none else none
noncomputable def plcNewN : plcNewE.T := plcNewE.un (yN plcChkN memNewN plcSizN)
theorem aPf (p0 : plcChkE.T) (p1 : memNewE.T) (p2 : plcSizE.T) (x) : plcNewE.run [plcChkE.on p0, memNewE.on p1, plcSizE.on p2] [] [] x = plcNewE.un (yN p0 p1 p2) x := by kernel_rfl
theorem plcNew_ok : plcNewE.Ok plcNewN := Fe.k (by kernel_rfl) (plcChk_ok.k (memNew_ok.k (plcSiz_ok.k g0))) (aA (by kernel_rfl)) (aPf plcChkN memNewN plcSizN)
noncomputable abbrev plcFldE : Fe := ⟨227, Tryz.f227, [.s (.e (.st .cfg)), vi, vi, vi], [], [vi, vi], []⟩
noncomputable def yO (p0 : plcChkE.T) (p1 : plcKinE.T) (c : Cfg) (which slot field : Int) : Option plcFldE.Y := (p0 ((c, ()), ())).bind fun z => bif z.1.1 != 0 then some ((0, 1, ()), ()) else bif decide (which < 1) then some ((0, 1, ()), ()) else bif decide (which > 3) then some ((0, 1, ()), ()) else (p1 ((c, ()), ())).bind fun z => bif inR which 5 then bif decide (slot < 0) then some ((0, 1, ()), ()) else bif decide (slot ≥ rdE EK.int [z.1.1.a.many, z.1.1.b.many, z.1.1.c.many, z.1.1.d.many, z.1.1.e.many] which) then some ((0, 1, ()), ()) else bif decide (field < 0) then some ((0, 1, ()), ()) else bif decide (field ≥ rdE EK.int [z.1.1.a.fields, z.1.1.b.fields, z.1.1.c.fields, z.1.1.d.fields, z.1.1.e.fields] which) then some ((0, 1, ()), ()) else some ((w64 (w64 (rdE EK.int [z.1.1.a.at_, z.1.1.b.at_, z.1.1.c.at_, z.1.1.d.at_, z.1.1.e.at_] which + w64 (slot * rdE EK.int [z.1.1.a.fields, z.1.1.b.fields, z.1.1.c.fields, z.1.1.d.fields, z.1.1.e.fields] which)) + field), 0, ()), ()) else none
noncomputable def plcFldN : plcFldE.T := plcFldE.un (yO plcChkN plcKinN)
theorem aPg (p0 : plcChkE.T) (p1 : plcKinE.T) (x) : plcFldE.run [plcChkE.on p0, plcKinE.on p1] [] [] x = plcFldE.un (yO p0 p1) x := by kernel_rfl
theorem plcFld_ok : plcFldE.Ok plcFldN := Fe.k (by kernel_rfl) (plcChk_ok.k (plcKin_ok.k g0)) (aA (by kernel_rfl)) (aPg plcChkN plcKinN)
noncomputable abbrev chnWhE : Fe := ⟨175, Tryz.f175, [.s (.e (.st .cfg)), .s (.e (.sl .int)), vi, vi, vi], [], [vi, vi], []⟩
noncomputable def aGn (p0 : tagUnpE.T) (p1 : plcSizE.T) (p2 : plcFldE.T) (c : Cfg) (m : List Int) (which ref field : Int) : Option chnWhE.Y := (p0 ((ref, ()), ())).bind fun z => bif z.1.2.2.1 != 0 then some ((0, 1, ()), ()) else (p1 ((c, ()), ())).bind fun z1 => bif Int.ofNat m.length != z1.1.1 then some ((0, 1, ()), ()) else (p2 ((c, which, z.1.1, field, ()), ())).bind fun z => some (z.1, ())
noncomputable def chnWhN : chnWhE.T := chnWhE.un (aGn tagUnpN plcSizN plcFldN)
theorem aXd (p0 : tagUnpE.T) (p1 : plcSizE.T) (p2 : plcFldE.T) (x) : chnWhE.run [tagUnpE.on p0, plcSizE.on p1, plcFldE.on p2] [] [] x = chnWhE.un (aGn p0 p1 p2) x := by kernel_rfl
theorem chnWh_ok : chnWhE.Ok chnWhN := Fe.k (by kernel_rfl) (tagUnp_ok.k (plcSiz_ok.k (plcFld_ok.k g0))) (aA (by kernel_rfl)) (aXd tagUnpN plcSizN plcFldN)
noncomputable abbrev chnFldE : Fe := ⟨114, Tryz.f114, [.s (.e (.st .cfg)), .s (.e (.sl .int)), vi, vi, vi], [], [vi, vi], []⟩
noncomputable def yP (p0 : memLoadE.T) (p1 : chnWhE.T) (c : Cfg) (m : List Int) (which ref field : Int) : Option chnFldE.Y := (p1 ((c, m, which, ref, field, ()), ())).bind fun z => bif z.1.2.1 != 0 then some ((0, z.1.2.1, ()), ()) else (p0 ((m, z.1.1, ()), ())).bind fun z => some (z.1, ())
noncomputable def chnFldN : chnFldE.T := chnFldE.un (yP memLoadN chnWhN)
theorem aPh (p0 : memLoadE.T) (p1 : chnWhE.T) (x) : chnFldE.run [memLoadE.on p0, chnWhE.on p1] [] [] x = chnFldE.un (yP p0 p1) x := by kernel_rfl
theorem chnFld_ok : chnFldE.Ok chnFldN := Fe.k (by kernel_rfl) (memLoad_ok.k (chnWh_ok.k g0)) (aA (by kernel_rfl)) (aPh memLoadN chnWhN)
noncomputable abbrev chnPutE : Fe := ⟨116, Tryz.f116, [.s (.e (.st .cfg)), .s (.e (.sl .int)), vi, vi, vi, vi], [], [.s (.e (.sl .int)), vi], []⟩
noncomputable def yQ (p0 : memStoreE.T) (p1 : chnWhE.T) (c : Cfg) (m : List Int) (which ref field v : Int) : Option chnPutE.Y := (p1 ((c, m, which, ref, field, ()), ())).bind fun z => bif z.1.2.1 != 0 then some (([], z.1.2.1, ()), ()) else (p0 ((m, z.1.1, v, ()), ())).bind fun z => some (z.1, ())
noncomputable def chnPutN : chnPutE.T := chnPutE.un (yQ memStoreN chnWhN)
theorem aPi (p0 : memStoreE.T) (p1 : chnWhE.T) (x) : chnPutE.run [memStoreE.on p0, chnWhE.on p1] [] [] x = chnPutE.un (yQ p0 p1) x := by kernel_rfl
theorem chnPut_ok : chnPutE.Ok chnPutN := Fe.k (by kernel_rfl) (memStore_ok.k (chnWh_ok.k g0)) (aA (by kernel_rfl)) (aPi memStoreN chnWhN)
noncomputable abbrev idxBL0E : Le := ⟨0, Tryz.f283, 0, [0, 1, 7, 8], [.s (.e (.sl .bool)), vb, vi, vi], [], ((Fin.one 0 Tryz.f283.ntmps (.exit 0) [] [] []).or (Fin.one 0 Tryz.f283.ntmps .ret [4] [vi] []))⟩
noncomputable def nF (v0 : List Bool) (v1 : Bool) (v2 v3 : Int) : Option (idxBL0E.X ⊕ idxBL0E.fin.Y) := bif decide (v3 < v2) then bif inR v3 v0.length then bif v1 == rdE EK.bool v0 v3 then some (Sum.inr (Sum.inr ((v3, ()), ()))) else some (Sum.inl ((v0, v1, v2, w64 (v3 + 1), ()), ())) else none else some (Sum.inr (Sum.inl ((), ())))
noncomputable def idxBL0N : idxBL0E.T := idxBL0E.lp (idxBL0E.un (nF))
theorem aPj (x) : idxBL0E.run [] [] [] x = idxBL0E.un (nF) x := by kernel_rfl
theorem aXe : idxBL0E.Ok idxBL0N := Le.k (fo f1 f1) g0 (aA (by kernel_rfl)) (aPj)
noncomputable abbrev idxBE : Fe := ⟨283, Tryz.f283, [.s (.e (.sl .bool)), vb], [], [vi], []⟩
noncomputable def bJx (p0 : idxBL0E.T) (s : List Bool) (v : Bool) : Option idxBE.Y := (p0 ((s, v, Int.ofNat s.length, 0, ()), ())).bind fun z => aH z (fun z => some ((-1, ()), ())) fun z => some ((z.1.1, ()), ())
noncomputable def idxBN : idxBE.T := idxBE.un (bJx idxBL0N)
theorem bCo (p0 : idxBL0E.T) (x) : idxBE.run [] [(2, idxBL0E.on p0)] [] x = idxBE.un (bJx p0) x := by kernel_rfl
theorem idxB_ok : idxBE.Ok idxBN := Fe.k (by kernel_rfl) g0 (bD (by kernel_rfl) (lsc (by kernel_rfl) aXe rfl lsn)) (bCo idxBL0N)
noncomputable abbrev hasBE : Fe := ⟨225, Tryz.f225, [.s (.e (.sl .bool)), vb], [], [vb], []⟩
noncomputable def aUt (p0 : idxBE.T) (s : List Bool) (v : Bool) : Option hasBE.Y := (p0 ((s, v, ()), ())).bind fun z => some ((decide (z.1.1 ≥ 0), ()), ())
noncomputable def hasBN : hasBE.T := hasBE.un (aUt idxBN)
theorem bCp (p0 : idxBE.T) (x) : hasBE.run [idxBE.on p0] [] [] x = hasBE.un (aUt p0) x := by kernel_rfl
theorem hasB_ok : hasBE.Ok hasBN := Fe.k (by kernel_rfl) (idxB_ok.k g0) (aA (by kernel_rfl)) (bCp idxBN)
noncomputable abbrev polNewL0E : Le := ⟨0, Tryz.f136, 0, [2, 4, 24, 25], [pm, .s (.ptr 1 0), vi, vi], [.box [.e (.st .pool)], .box [.own 2, .own 3, .own 4, .own 5], .arr .int, .arr .int, .arr .int, .arr .int], (Fin.one 0 Tryz.f136.ntmps (.exit 0) [2, 4] [pm, .s (.ptr 1 0)] [.box [.e (.st .pool)], .box [.own 2, .own 3, .own 4, .own 5], .arr .int, .arr .int, .arr .int, .arr .int])⟩
noncomputable def iH (v2 v3 : Int) (v4 : Pool) (v9 v10 v11 v12 : List Int) : Option (polNewL0E.X ⊕ polNewL0E.fin.Y) := bif decide (v3 < v2) then bif inR v3 v12.length then some (Sum.inl (((), (), v2, w64 (v3 + 1), ()), (v4, ()), ((), (), (), (), ()), v9, v10, v11, wrE EK.int v12 v3 v3, ())) else none else some (Sum.inr (((), (), ()), (v4, ()), ((), (), (), (), ()), v9, v10, v11, v12, ()))
noncomputable def polNewL0N : polNewL0E.T := polNewL0E.lp (polNewL0E.un iH)
theorem aGo (x) : polNewL0E.run [] [] [] x = polNewL0E.un iH x := by kernel_rfl
theorem aJz : polNewL0E.Ok polNewL0N := Le.k f1 g0 (aA (by kernel_rfl)) aGo
noncomputable abbrev polNewE : Fe := ⟨136, Tryz.f136, [vi], [], [.s (.e (.st .pool)), vi], []⟩
noncomputable def yR (p0 : polNewL0E.T) (n : Int) : Option polNewE.Y := bif decide (n < 1) then some ((Pool.mk [] [] [] [], 1, ()), ()) else bif decide (n > 64) then some ((Pool.mk [] [] [] [], 1, ()), ()) else bif decide (0 ≤ n) && decide (n ≤ 1000000000) && (decide (0 ≤ n) && decide (n ≤ 1000000000) && (decide (0 ≤ n) && decide (n ≤ 1000000000) && (true && true))) then bif decide (0 ≤ n) && decide (n ≤ 1000000000) then bif decide (0 ≤ n) && decide (n ≤ 1000000000) && (decide (0 ≤ n) && decide (n ≤ 1000000000) && (true && true)) then bif decide (0 ≤ n) && decide (n ≤ 1000000000) then bif decide (0 ≤ n) && decide (n ≤ 1000000000) && (true && true) then bif decide (0 ≤ n) && decide (n ≤ 1000000000) then bif decide (0 ≤ n) && decide (n ≤ 1000000000) then (p0 (((), (), Int.ofNat (List.replicate n.toNat (0 : Int)).length, 0, ()), (Pool.mk [] [] [] [], ()), ((), (), (), (), ()), List.replicate n.toNat (0 : Int), List.replicate n.toNat (0 : Int), List.replicate n.toNat (0 : Int), List.replicate n.toNat (0 : Int), ())).bind fun z => some ((Pool.mk z.2.2.2.1 z.2.2.2.2.1 z.2.2.2.2.2.1 z.2.2.2.2.2.2.1, 0, ()), ()) else none else none else none else none else none else none else none
noncomputable def polNewN : polNewE.T := polNewE.un (yR polNewL0N)
theorem aPk (p0 : polNewL0E.T) (x) : polNewE.run [] [(5, polNewL0E.on p0)] [] x = polNewE.un (yR p0) x := by kernel_rfl
theorem polNew_ok : polNewE.Ok polNewN := Fe.k (by kernel_rfl) g0 (bD (by kernel_rfl) (lsc (by kernel_rfl) aJz rfl lsn)) (aPk polNewL0N)
noncomputable abbrev polChkL1E : Le := ⟨0, Tryz.f171, 1, [3, 4, 83, 84, 85], [vi, .s (.own 0), .s (.e (.sl .int)), vi, vi], [.arr .bool], ((Fin.one 0 Tryz.f171.ntmps (.exit 2) [4] [.s (.own 0)] [.arr .bool]).or (Fin.one 0 Tryz.f171.ntmps .ret [2] [vi] []))⟩
noncomputable def gG (v0 : Int) (v2 : List Int) (v3 v4 : Int) (v5 : List Bool) : Option (polChkL1E.X ⊕ polChkL1E.fin.Y) := bif decide (v4 < v3) then bif inR v4 v2.length then bif decide (rdE EK.int v2 v4 < 0) then some (Sum.inr (Sum.inr ((1, ()), ()))) else bif decide (rdE EK.int v2 v4 ≥ v0) then some (Sum.inr (Sum.inr ((1, ()), ()))) else bif inR (rdE EK.int v2 v4) v5.length then bif !rdE EK.bool v5 (rdE EK.int v2 v4) then some (Sum.inr (Sum.inr ((1, ()), ()))) else bif inR (rdE EK.int v2 v4) v5.length then some (Sum.inl ((v0, (), v2, v3, w64 (v4 + 1), ()), wrE EK.bool v5 (rdE EK.int v2 v4) false, ())) else none else none else none else some (Sum.inr (Sum.inl (((), ()), v5, ())))
noncomputable def polChkL1N : polChkL1E.T := polChkL1E.lp (polChkL1E.un gG)
theorem aGp (x) : polChkL1E.run [] [] [] x = polChkL1E.un gG x := by kernel_rfl
theorem aKa : polChkL1E.Ok polChkL1N := Le.k (fo f1 f1) g0 (aA (by kernel_rfl)) aGp
noncomputable abbrev polChkL0E : Le := ⟨0, Tryz.f171, 0, [1, 3, 4, 35, 36, 37], [pm, vi, .s (.own 1), .s (.e (.sl .int)), vi, vi], [.box [.e (.st .pool)], .arr .bool], ((Fin.one 0 Tryz.f171.ntmps (.exit 0) [1, 3, 4] [pm, vi, .s (.own 1)] [.box [.e (.st .pool)], .arr .bool]).or (Fin.one 0 Tryz.f171.ntmps .ret [2] [vi] []))⟩
noncomputable def iI (v1 : Int) (v3 : List Int) (v4 v5 : Int) (v6 : Pool) (v7 : List Bool) : Option (polChkL0E.X ⊕ polChkL0E.fin.Y) := bif decide (v5 < v4) then bif inR v5 v3.length then bif inR v5 v6.gens.length then bif decide (rdE EK.int v6.gens v5 < 0) then some (Sum.inr (Sum.inr ((1, ()), ()))) else bif inR v5 v6.gens.length then bif decide (rdE EK.int v6.gens v5 > 1099511627775) then some (Sum.inr (Sum.inr ((1, ()), ()))) else bif decide (rdE EK.int v3 v5 < 0) then some (Sum.inr (Sum.inr ((1, ()), ()))) else bif decide (rdE EK.int v3 v5 > 2) then some (Sum.inr (Sum.inr ((1, ()), ()))) else bif rdE EK.int v3 v5 != 2 then bif inR v5 v6.when_.length then bif rdE EK.int v6.when_ v5 != 0 then some (Sum.inr (Sum.inr ((1, ()), ()))) else bif inR v5 v7.length then some (Sum.inl (((), v1, (), v3, v4, w64 (v5 + 1), ()), (v6, ()), wrE EK.bool v7 v5 (rdE EK.int v3 v5 == 0), ())) else none else none else bif inR v5 v7.length then some (Sum.inl (((), v1, (), v3, v4, w64 (v5 + 1), ()), (v6, ()), wrE EK.bool v7 v5 (rdE EK.int v3 v5 == 0), ())) else none else none else none else none else some (Sum.inr (Sum.inl (((), v1, (), ()), (v6, ()), v7, ())))
noncomputable def polChkL0N : polChkL0E.T := polChkL0E.lp (polChkL0E.un iI)
theorem aGq (x) : polChkL0E.run [] [] [] x = polChkL0E.un iI x := by kernel_rfl
theorem aKb : polChkL0E.Ok polChkL0N := Le.k (fo f1 f1) g0 (aA (by kernel_rfl)) aGq
noncomputable abbrev polChkE : Fe := ⟨171, Tryz.f171, [.s (.e (.st .pool))], [], [vi], []⟩
noncomputable def yS (p0 : hasBE.T) (p1 : polChkL0E.T) (p2 : polChkL1E.T) (p : Pool) : Option polChkE.Y := bif decide (Int.ofNat p.gens.length < 1) then some ((1, ()), ()) else bif decide (Int.ofNat p.gens.length > 64) then some ((1, ()), ()) else bif Int.ofNat p.states.length != Int.ofNat p.gens.length then some ((1, ()), ()) else bif Int.ofNat p.when_.length != Int.ofNat p.gens.length then some ((1, ()), ()) else bif decide (0 ≤ Int.ofNat p.gens.length) && decide (Int.ofNat p.gens.length ≤ 1000000000) then (p1 (((), Int.ofNat p.gens.length, (), p.states, Int.ofNat p.states.length, 0, ()), (p, ()), List.replicate (Int.ofNat p.gens.length).toNat false, ())).bind fun z => aH z (fun z => (p2 ((z.1.2.1, (), z.2.1.1.free, Int.ofNat z.2.1.1.free.length, 0, ()), z.2.2.1, ())).bind fun z => aH z (fun z => (p0 ((z.2.1, true, ()), ())).bind fun z => bif z.1.1 then some ((1, ()), ()) else some ((0, ()), ())) fun z => some ((z.1.1, ()), ())) fun z => some ((z.1.1, ()), ()) else none
noncomputable def polChkN : polChkE.T := polChkE.un (yS hasBN polChkL0N polChkL1N)
theorem aPl (p0 : hasBE.T) (p1 : polChkL0E.T) (p2 : polChkL1E.T) (x) : polChkE.run [hasBE.on p0] [(6, polChkL0E.on p1), (13, polChkL1E.on p2)] [] x = polChkE.un (yS p0 p1 p2) x := by kernel_rfl
theorem polChk_ok : polChkE.Ok polChkN := Fe.k (by kernel_rfl) (hasB_ok.k g0) (bD (by kernel_rfl) (lsc (by kernel_rfl) aKb rfl (lsc (by kernel_rfl) aKa rfl lsn))) (aPl hasBN polChkL0N polChkL1N)
noncomputable abbrev polOwnE : Fe := ⟨233, Tryz.f233, [.s (.e (.st .pool))], [], [.agg [.own 0, .own 1, .own 2, .own 3]], [.arr .int, .arr .int, .arr .int, .arr .int]⟩
noncomputable def yT (p0 : clnIE.T) (p : Pool) : Option polOwnE.Y := (p0 ((p.gens, ()), ())).bind fun z => (p0 ((p.states, ()), ())).bind fun z1 => (p0 ((p.when_, ()), ())).bind fun z2 => (p0 ((p.free, ()), ())).bind fun z3 => some ((((), (), (), (), ()), ()), z.2.1, z1.2.1, z2.2.1, z3.2.1, ())
noncomputable def polOwnN : polOwnE.T := polOwnE.un (yT clnIN)
theorem aPm (p0 : clnIE.T) (x) : polOwnE.run [clnIE.on p0] [] [] x = polOwnE.un (yT p0) x := by kernel_rfl
theorem polOwn_ok : polOwnE.Ok polOwnN := Fe.k (by kernel_rfl) (clnI_ok.k g0) (aA (by kernel_rfl)) (aPm clnIN)
noncomputable abbrev polTakE : Fe := ⟨182, Tryz.f182, [.s (.e (.st .pool))], [], [.s (.e (.st .pool)), vi, vi], []⟩
noncomputable def yU (p0 : tagPackE.T) (p1 : polChkE.T) (p2 : polOwnE.T) (p : Pool) : Option polTakE.Y := (p1 ((p, ()), ())).bind fun z => bif z.1.1 != 0 then some ((Pool.mk [] [] [] [], 0, z.1.1, ()), ()) else bif Int.ofNat p.free.length == 0 then some ((Pool.mk [] [] [] [], 0, 3, ()), ()) else (p2 ((p, ()), ())).bind fun z => bif inR 0 (List.length z.2.2.2.2.1) then bif true && decide (1 ≤ Int.ofNat (List.length z.2.2.2.2.1)) then bif inR (rdE EK.int z.2.2.2.2.1 0) (List.length z.2.2.1) then bif inR (rdE EK.int z.2.2.2.2.1 0) (List.length z.2.1) then (p0 ((rdE EK.int z.2.2.2.2.1 0, rdE EK.int z.2.1 (rdE EK.int z.2.2.2.2.1 0), ()), ())).bind fun z1 => some ((Pool.mk z.2.1 (wrE EK.int z.2.2.1 (rdE EK.int z.2.2.2.2.1 0) 1) z.2.2.2.1 (List.drop (Int.toNat 1) (List.take (Int.ofNat (List.length z.2.2.2.2.1)).toNat z.2.2.2.2.1)), z1.1), ()) else none else none else none else none
noncomputable def polTakN : polTakE.T := polTakE.un (yU tagPackN polChkN polOwnN)
theorem aPn (p0 : tagPackE.T) (p1 : polChkE.T) (p2 : polOwnE.T) (x) : polTakE.run [tagPackE.on p0, polChkE.on p1, polOwnE.on p2] [] [] x = polTakE.un (yU p0 p1 p2) x := by kernel_rfl
theorem polTak_ok : polTakE.Ok polTakN := Fe.k (by kernel_rfl) (tagPack_ok.k (polChk_ok.k (polOwn_ok.k g0))) (aA (by kernel_rfl)) (aPn tagPackN polChkN polOwnN)
noncomputable abbrev polRetE : Fe := ⟨181, Tryz.f181, [.s (.e (.st .pool)), vi, vi], [], [.s (.e (.st .pool)), vi], []⟩
noncomputable def yV (p0 : tagUnpE.T) (p1 : polChkE.T) (p2 : polOwnE.T) (p : Pool) (ref when_ : Int) : Option polRetE.Y := (p0 ((ref, ()), ())).bind fun z => (p1 ((p, ()), ())).bind fun z1 => bif z1.1.1 != 0 then some ((Pool.mk [] [] [] [], 1, ()), ()) else bif z.1.2.2.1 != 0 then some ((Pool.mk [] [] [] [], 1, ()), ()) else bif decide (z.1.1 ≥ Int.ofNat p.gens.length) then some ((Pool.mk [] [] [] [], 1, ()), ()) else bif inR z.1.1 p.states.length then bif rdE EK.int p.states z.1.1 != 1 then some ((Pool.mk [] [] [] [], 2, ()), ()) else bif inR z.1.1 p.gens.length then bif rdE EK.int p.gens z.1.1 != z.1.2.1 then some ((Pool.mk [] [] [] [], 2, ()), ()) else (p2 ((p, ()), ())).bind fun z2 => bif inR z.1.1 (List.length z2.2.2.1) then bif inR z.1.1 (List.length z2.2.2.2.1) then some ((Pool.mk z2.2.1 (wrE EK.int z2.2.2.1 z.1.1 2) (wrE EK.int z2.2.2.2.1 z.1.1 when_) z2.2.2.2.2.1, 0, ()), ()) else none else none else none else none
noncomputable def polRetN : polRetE.T := polRetE.un (yV tagUnpN polChkN polOwnN)
theorem aPo (p0 : tagUnpE.T) (p1 : polChkE.T) (p2 : polOwnE.T) (x) : polRetE.run [tagUnpE.on p0, polChkE.on p1, polOwnE.on p2] [] [] x = polRetE.un (yV p0 p1 p2) x := by kernel_rfl
theorem polRet_ok : polRetE.Ok polRetN := Fe.k (by kernel_rfl) (tagUnp_ok.k (polChk_ok.k (polOwn_ok.k g0))) (aA (by kernel_rfl)) (aPo tagUnpN polChkN polOwnN)
noncomputable abbrev polRecL0E : Le := ⟨0, Tryz.f231, 0, [1, 2, 4, 6, 19, 20, 21], [vi, pm, .s (.ptr 1 0), vi, .s (.own 2), vi, vi], [.box [.own 3, .own 2, .own 4, .own 5], .box [.e (.st .pool)], .arr .int, .arr .int, .arr .int, .arr .int], (Fin.one 0 Tryz.f231.ntmps (.exit 0) [2, 4, 6] [pm, .s (.ptr 1 0), vi] [.box [.own 2, .own 3, .own 4, .own 5], .box [.e (.st .pool)], .arr .int, .arr .int, .arr .int, .arr .int])⟩
noncomputable def iJ (v0 v3 v5 v6 : Int) (v11 : Pool) (v12 v13 v14 v15 : List Int) : Option (polRecL0E.X ⊕ polRecL0E.fin.Y) := bif decide (v6 < v5) then bif inR v6 v12.length then bif rdE EK.int v12 v6 == 2 then bif inR v6 v14.length then bif decide (rdE EK.int v14 v6 ≤ v0) then bif inR v6 v13.length then bif rdE EK.int v13 v6 != 1099511627775 then bif inR v6 v13.length then bif decide (v15.length + [v6].length ≤ 1000000000) then bif inR v6 v12.length then bif inR v6 v14.length then bif inR v6 v13.length then some (Sum.inl ((v0, (), (), v3, (), v5, w64 (v6 + 1), ()), ((), (), (), (), ()), (v11, ()), wrE EK.int v12 v6 0, wrE EK.int v13 v6 (w64 (rdE EK.int v13 v6 + 1)), wrE EK.int v14 v6 0, v15 ++ [v6], ())) else none else none else none else none else none else some (Sum.inl ((v0, (), (), v3, (), v5, w64 (v6 + 1), ()), ((), (), (), (), ()), (v11, ()), v12, v13, v14, v15, ())) else none else some (Sum.inl ((v0, (), (), v3, (), v5, w64 (v6 + 1), ()), ((), (), (), (), ()), (v11, ()), v12, v13, v14, v15, ())) else none else some (Sum.inl ((v0, (), (), v3, (), v5, w64 (v6 + 1), ()), ((), (), (), (), ()), (v11, ()), v12, v13, v14, v15, ())) else none else some (Sum.inr (((), (), v3, ()), ((), (), (), (), ()), (v11, ()), v13, v12, v14, v15, ()))
noncomputable def polRecL0N : polRecL0E.T := polRecL0E.lp (polRecL0E.un iJ)
theorem aGr (x) : polRecL0E.run [] [] [] x = polRecL0E.un iJ x := by kernel_rfl
theorem aKc : polRecL0E.Ok polRecL0N := Le.k f1 g0 (aA (by kernel_rfl)) aGr
noncomputable abbrev polRecE : Fe := ⟨231, Tryz.f231, [.s (.e (.st .pool)), vi], [], [.s (.e (.st .pool)), vi], []⟩
noncomputable def yW (p0 : polChkE.T) (p1 : polOwnE.T) (p2 : polRecL0E.T) (p : Pool) (upto : Int) : Option polRecE.Y := (p0 ((p, ()), ())).bind fun z => bif z.1.1 != 0 then some ((Pool.mk [] [] [] [], 0, ()), ()) else (p1 ((p, ()), ())).bind fun z => (p2 ((upto, (), (), Int.ofNat (List.length z.2.2.2.2.1), (), Int.ofNat (List.length z.2.2.1), 0, ()), ((), (), (), (), ()), (Pool.mk [] [] [] [], ()), z.2.2.1, z.2.1, z.2.2.2)).bind fun z => some ((Pool.mk z.2.2.2.1 z.2.2.2.2.1 z.2.2.2.2.2.1 z.2.2.2.2.2.2.1, w64 (Int.ofNat (List.length z.2.2.2.2.2.2.1) - z.1.2.2.1), ()), ())
noncomputable def polRecN : polRecE.T := polRecE.un (yW polChkN polOwnN polRecL0N)
theorem aPp (p0 : polChkE.T) (p1 : polOwnE.T) (p2 : polRecL0E.T) (x) : polRecE.run [polChkE.on p0, polOwnE.on p1] [(6, polRecL0E.on p2)] [] x = polRecE.un (yW p0 p1 p2) x := by kernel_rfl
theorem polRec_ok : polRecE.Ok polRecN := Fe.k (by kernel_rfl) (polChk_ok.k (polOwn_ok.k g0)) (bD (by kernel_rfl) (lsc (by kernel_rfl) aKc rfl lsn)) (aPp polChkN polOwnN polRecL0N)
noncomputable abbrev eraC1E : Fe := ⟨226, Tryz.f226, [vi, pm], [.box [.e (.st .era)]], [vb], [.box [.e (.st .era)]]⟩
noncomputable def aGs (n : Int) (e : Era) : Option eraC1E.Y := bif n != -1 then bif decide (n < 0) then some ((true, ()), (e, ()), ()) else bif decide (n > e.now) then some ((true, ()), (e, ()), ()) else some ((decide (n < w64 (e.now - 1)), ()), (e, ()), ()) else some ((false, ()), (e, ()), ())
noncomputable def eraC1N : eraC1E.T := eraC1E.un aGs
theorem aXf (x) : eraC1E.run [] [] [] x = eraC1E.un (aGs) x := by kernel_rfl
theorem eraC1_ok : eraC1E.Ok eraC1N := Fe.k (by kernel_rfl) g0 (aA (by kernel_rfl)) (aXf)
noncomputable abbrev idxC1L0E : Le := ⟨1, Tryz.f174, 0, [0, 1, 7, 8], [.s (.e (.sl .int)), .clo 226 [.ptr 0 0], vi, vi], [.box [.e (.st .era)]], ((Fin.one 1 Tryz.f174.ntmps (.exit 0) [] [] [.box [.e (.st .era)]]).or (Fin.one 1 Tryz.f174.ntmps .ret [4] [vi] [.box [.e (.st .era)]]))⟩
noncomputable def kK (p0 : eraC1E.T) (v0 : List Int) (v2 v3 : Int) (e : Era) : Option (idxC1L0E.X ⊕ idxC1L0E.fin.Y) := bif decide (v3 < v2) then bif inR v3 v0.length then (p0 ((rdE EK.int v0 v3, (), ()), (e, ()), ())).bind fun z => bif z.1.1 then some (Sum.inr (Sum.inr ((v3, ()), (z.2.1.1, ()), ()))) else some (Sum.inl ((v0, ((), ()), v2, w64 (v3 + 1), ()), (z.2.1.1, ()), ())) else none else some (Sum.inr (Sum.inl ((), (e, ()), ())))
noncomputable def idxC1L0N : idxC1L0E.T := idxC1L0E.lp (idxC1L0E.un (kK eraC1N))
theorem aKd (p0 : eraC1E.T) (x) : idxC1L0E.run [eraC1E.on p0] [] [] x = idxC1L0E.un (kK p0) x := by kernel_rfl
theorem aPq : idxC1L0E.Ok idxC1L0N := Le.k (fo f1 f1) (eraC1_ok.k g0) (aA (by kernel_rfl)) (aKd eraC1N)
noncomputable abbrev idxC1E : Fe := ⟨174, Tryz.f174, [.s (.e (.sl .int)), .clo 226 [.ptr 0 0]], [.box [.e (.st .era)]], [vi], [.box [.e (.st .era)]]⟩
noncomputable def bCq (p0 : eraC1E.T) (p1 : idxC1L0E.T) (s : List Int) (e : Era) : Option idxC1E.Y := (p1 ((s, ((), ()), Int.ofNat s.length, 0, ()), (e, ()), ())).bind fun z => aH z (fun z => some ((-1, ()), (z.2.1.1, ()), ())) fun z => some ((z.1.1, ()), (z.2.1.1, ()), ())
noncomputable def idxC1N : idxC1E.T := idxC1E.un (bCq eraC1N idxC1L0N)
theorem aXg (p0 : eraC1E.T) (p1 : idxC1L0E.T) (x) : idxC1E.run [eraC1E.on p0] [(2, idxC1L0E.on p1)] [] x = idxC1E.un (bCq p0 p1) x := by kernel_rfl
theorem idxC1_ok : idxC1E.Ok idxC1N := Fe.k (by kernel_rfl) (eraC1_ok.k g0) (bD (by kernel_rfl) (lsc (by kernel_rfl) aPq rfl lsn)) (aXg eraC1N idxC1L0N)
noncomputable abbrev hasC1E : Fe := ⟨111, Tryz.f111, [.s (.e (.sl .int)), .clo 226 [.ptr 0 0]], [.box [.e (.st .era)]], [vb], [.box [.e (.st .era)]]⟩
noncomputable def aGt (p0 : eraC1E.T) (p1 : idxC1E.T) (s : List Int) (e : Era) : Option hasC1E.Y := (p1 ((s, ((), ()), ()), (e, ()), ())).bind fun z => some ((decide (z.1.1 ≥ 0), ()), (z.2.1.1, ()), ())
noncomputable def hasC1N : hasC1E.T := hasC1E.un (aGt eraC1N idxC1N)
theorem aXh (p0 : eraC1E.T) (p1 : idxC1E.T) (x) : hasC1E.run [eraC1E.on p0, idxC1E.on p1] [] [] x = hasC1E.un (aGt p0 p1) x := by kernel_rfl
theorem hasC1_ok : hasC1E.Ok hasC1N := Fe.k (by kernel_rfl) (eraC1_ok.k (idxC1_ok.k g0)) (aA (by kernel_rfl)) (aXh eraC1N idxC1N)
noncomputable abbrev eraChkE : Fe := ⟨172, Tryz.f172, [.s (.e (.st .era))], [], [vi], []⟩
noncomputable def yX (p0 : hasC1E.T) (e : Era) : Option eraChkE.Y := bif decide (e.now < 0) then some ((1, ()), ()) else bif decide (e.now > 1152921504606846976) then some ((1, ()), ()) else bif decide (Int.ofNat e.pins.length < 1) then some ((1, ()), ()) else bif decide (Int.ofNat e.pins.length > 64) then some ((1, ()), ()) else (p0 ((e.pins, ((), ()), ()), (e, ()), ())).bind fun z => bif z.1.1 then some ((1, ()), ()) else some ((0, ()), ())
noncomputable def eraChkN : eraChkE.T := eraChkE.un (yX hasC1N)
theorem aPr (p0 : hasC1E.T) (x) : eraChkE.run [hasC1E.on p0] [] [] x = eraChkE.un (yX p0) x := by kernel_rfl
theorem eraChk_ok : eraChkE.Ok eraChkN := Fe.k (by kernel_rfl) (hasC1_ok.k g0) (aA (by kernel_rfl)) (aPr hasC1N)
noncomputable abbrev eraPndE : Fe := ⟨228, Tryz.f228, [.s (.e (.st .era)), vi], [], [vi, vi], []⟩
noncomputable def yY (p0 : eraChkE.T) (e : Era) (t : Int) : Option eraPndE.Y := (p0 ((e, ()), ())).bind fun z => bif z.1.1 != 0 then some ((0, 1, ()), ()) else bif decide (t < 0) then some ((0, 1, ()), ()) else bif decide (t ≥ Int.ofNat e.pins.length) then some ((0, 1, ()), ()) else bif inR t e.pins.length then some ((rdE EK.int e.pins t, 0, ()), ()) else none
noncomputable def eraPndN : eraPndE.T := eraPndE.un (yY eraChkN)
theorem aPs (p0 : eraChkE.T) (x) : eraPndE.run [eraChkE.on p0] [] [] x = eraPndE.un (yY p0) x := by kernel_rfl
theorem eraPnd_ok : eraPndE.Ok eraPndN := Fe.k (by kernel_rfl) (eraChk_ok.k g0) (aA (by kernel_rfl)) (aPs eraChkN)
noncomputable abbrev eraWthE : Fe := ⟨229, Tryz.f229, [.s (.e (.st .era)), vi, vi], [], [.s (.e (.st .era))], []⟩
noncomputable def yZ (p0 : clnIE.T) (e : Era) (t n : Int) : Option eraWthE.Y := (p0 ((e.pins, ()), ())).bind fun z => bif inR t (List.length z.2.1) then some ((Era.mk e.now (wrE EK.int z.2.1 t n), ()), ()) else none
noncomputable def eraWthN : eraWthE.T := eraWthE.un (yZ clnIN)
theorem aPt (p0 : clnIE.T) (x) : eraWthE.run [clnIE.on p0] [] [] x = eraWthE.un (yZ p0) x := by kernel_rfl
theorem eraWth_ok : eraWthE.Ok eraWthN := Fe.k (by kernel_rfl) (clnI_ok.k g0) (aA (by kernel_rfl)) (aPt clnIN)
noncomputable abbrev eraPinE : Fe := ⟨178, Tryz.f178, [.s (.e (.st .era)), vi], [], [.s (.e (.st .era)), vi], []⟩
noncomputable def zB (p0 : eraPndE.T) (p1 : eraWthE.T) (e : Era) (t : Int) : Option eraPinE.Y := (p0 ((e, t, ()), ())).bind fun z => bif z.1.2.1 != 0 then some ((Era.mk 0 [], 1, ()), ()) else bif z.1.1 != -1 then some ((Era.mk 0 [], 1, ()), ()) else (p1 ((e, t, e.now, ()), ())).bind fun z => some ((z.1.1, 0, ()), ())
noncomputable def eraPinN : eraPinE.T := eraPinE.un (zB eraPndN eraWthN)
theorem aPu (p0 : eraPndE.T) (p1 : eraWthE.T) (x) : eraPinE.run [eraPndE.on p0, eraWthE.on p1] [] [] x = eraPinE.un (zB p0 p1) x := by kernel_rfl
theorem eraPin_ok : eraPinE.Ok eraPinN := Fe.k (by kernel_rfl) (eraPnd_ok.k (eraWth_ok.k g0)) (aA (by kernel_rfl)) (aPu eraPndN eraWthN)
noncomputable abbrev eraUnpE : Fe := ⟨179, Tryz.f179, [.s (.e (.st .era)), vi], [], [.s (.e (.st .era)), vi], []⟩
noncomputable def zC (p0 : eraPndE.T) (p1 : eraWthE.T) (e : Era) (t : Int) : Option eraUnpE.Y := (p0 ((e, t, ()), ())).bind fun z => bif z.1.2.1 != 0 then some ((Era.mk 0 [], z.1.2.1, ()), ()) else bif z.1.1 == -1 then some ((Era.mk 0 [], 2, ()), ()) else (p1 ((e, t, -1, ()), ())).bind fun z => some ((z.1.1, 0, ()), ())
noncomputable def eraUnpN : eraUnpE.T := eraUnpE.un (zC eraPndN eraWthN)
theorem aPv (p0 : eraPndE.T) (p1 : eraWthE.T) (x) : eraUnpE.run [eraPndE.on p0, eraWthE.on p1] [] [] x = eraUnpE.un (zC p0 p1) x := by kernel_rfl
theorem eraUnp_ok : eraUnpE.Ok eraUnpN := Fe.k (by kernel_rfl) (eraPnd_ok.k (eraWth_ok.k g0)) (aA (by kernel_rfl)) (aPv eraPndN eraWthN)
end Go.Ax.Cd
