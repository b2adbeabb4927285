/- Merged. -/
import Derived.Test.YthcfkplfmjcmoaaGreatDoorQ08
import Derived.Tactics
import Derived.Orders
namespace Go.Ax
open Go.RowKit
set_option linter.unusedVariables false
set_option linter.unusedSimpArgs false
structure Ent where
 ρ : List Value
 w : World
 O : Nat → Prop
 F : Nat → Prop
 L : Nat → Prop
 D : List Deferred := []
 full : Bool := false
section
variable (P : Program) (gl : Glb) (E : Ent)
structure InvH (hp : List AObj) (w : World) (ρ : List Value) (F : Nat → Prop) : Prop where
 h : RepH ρ F E.L hp w
 stp : Stp E.w E.O E.F w (Own ρ hp) F
 pk : PK E.ρ ρ
 glo : Glo gl w F
structure Inv (s : St) (a : Act) (w : World) (ρ : List Value) (F : Nat → Prop) : Prop extends InvH gl E s.hp w ρ F where
 rep : Rep ρ F E.L s a w
 dfs : a.defers = E.D
def QK (K : AEx → St → Prop) : Exit → Act → World → Prop
 | .normal, a, w => ∃ s ρ F, Inv gl E s a w ρ F ∧ K .normal s
 | .exit i, a, w => ∃ s ρ F, Inv gl E s a w ρ F ∧ K (.exit i) s
 | .ret, a, w => ∃ s ρ F, Inv gl E s a w ρ F ∧ K .ret s
 | .panic c, a, w => ∃ s ρ F v x, a.defers = E.D ∧ (InvH gl E s.hp w ρ F ∧ (E.full = true → VRs ρ w F (Bx F E.L) s.tm a.tmps.toList)) ∧ c = [{ v := x, recovered := false }] ∧ VR ρ w F (Bx F E.L) v x ∧ K (.pan v) s
 | _, _, _ => False
structure Callable (f : Nat) : Prop where
 ex : ∃ (fn : Func) (c : Code), P.funcs[f]? = some fn ∧ (fn.name == "runtime.NumGoroutine") = false ∧ fn.body = some c
def GOk (G : List (Nat × Con)) : Prop := ∀ p ∈ G, Callable P p.1 ∧ aK P gl p.1 p.2
end
section
variable {P : Program} {gl : Glb} {kd : TypeId → Option EK} {G : List (Nat × Con)} {E : Ent} {ρ : List Value} {F : Nat → Prop} {s : St} {a : Act} {w : World}
theorem Inv.of {E : Ent} {s : St} {a : Act} {w : World} {ρ : List Value} {F : Nat → Prop} (r : Rep ρ F E.L s a w) (h : Stp E.w E.O E.F w (Own ρ s.hp) F) (p : PK E.ρ ρ) (g : Glo gl w F) (d : a.defers = E.D) : Inv gl E s a w ρ F := ⟨⟨r.h, h, p, g⟩, r, d⟩
theorem Inv.put (h : Inv gl E s a w ρ F) (d : Option Tmp) {x : AVal} {v : Value} (hx : VR ρ w F (Bx F E.L) x v) : Inv gl E (s.put d x) (a.put d v) w ρ F := .of (h.rep.put d hx) h.stp h.pk h.glo (by cases d <;> exact h.dfs)
structure Nx (gl : Glb) (E : Ent) (ρ : List Value) (F : Nat → Prop) (s : St) (w : World) (ws : List Nat) (s' : St) (a : Act) (w' : World) (ρ' : List Value) (F' : Nat → Prop) (v : AVal) (val : Value) : Prop where
 inv : Inv gl E s' a w' ρ' F'
 vr : VR ρ' w' F' (Bx F' E.L) v val
 stp : Stp w (Own ρ s.hp) F w' (Own ρ' s'.hp) F'
 ch : Ch w w' (fun b => ∃ n ∈ ws, ∃ x, ρ[n]? = some x ∧ blk x = some b)
 nk : NK ρ ρ' s.hp s'.hp w (fun n => n ∈ ws)
theorem Glo.stp (h : Glo gl w F) (hR : RepH ρ F E.L s.hp w) {w' : World} {O' F' : Nat → Prop} (hs : Stp w (Own ρ s.hp) F w' O' F') : Glo gl w' F' :=
 h.mono (fun b hb => hs.ch.block b (hR.froz b (.inl hb)).1 (hR.froz b (.inl hb)).2) hs.fF
theorem Nx.mk' {ws : List Nat} {s' : St} {w' : World} {ρ' : List Value} {F' : Nat → Prop} {v : AVal} {val : Value} (h : Inv gl E s a w ρ F) (r : Rep ρ' F' E.L s' a w') (st : Stp w (Own ρ s.hp) F w' (Own ρ' s'.hp) F') (p : PK ρ ρ') (vr : VR ρ' w' F' (Bx F' E.L) v val)
  (ch : Ch w w' (fun b => ∃ n ∈ ws, ∃ x, ρ[n]? = some x ∧ blk x = some b)) (nk : NK ρ ρ' s.hp s'.hp w (fun n => n ∈ ws)) : Nx gl E ρ F s w ws s' a w' ρ' F' v val :=
 ⟨.of r (h.stp.trans st) (h.pk.trans p) (h.glo.stp h.rep.h st) h.dfs, vr, st, ch, nk⟩
theorem Nx.same (h : Inv gl E s a w ρ F) {v : AVal} {val : Value} (vr : VR ρ w F (Bx F E.L) v val) (ws : List Nat) : Nx gl E ρ F s w ws s a w ρ F v val :=
 ⟨h, vr, .refl _ _ _, .refl _ _, (LV.refl _).nk⟩
theorem aOr {Z : Type} {C : Con} {p : St × List Nat × C.X} {K Kp : AVal → St → Option Z} {z : Z} (h : aUh C p K Kp = some z) : ∃ y, C.spec p.2.2 = some y ∧ p.2.1.length ≤ (C.out y).2.length ∧
  (match (C.out y).1 with
   | .ret v => K (v.mp (fwV p.1.hp.length p.2.1)) (after p.1 p.2.1 C.fix (C.out y).2)
   | .pan v => Kp (v.mp (fwV p.1.hp.length p.2.1)) (after p.1 p.2.1 C.fix (C.out y).2)) = some z := by
 unfold aUh at h
 rw [C.rlaw] at h
 obtain ⟨y, h1, h⟩ := Option.bind_eq_some_iff.1 h
 rw [C.law] at h
 split at h
 ·rename_i hc
  exact ⟨y, h1, hc, h⟩
 ·cases h
theorem rP {Z : Type} {f : Nat} {as : List AVal} {K Kp : AVal → St → Option Z} {z : Z} : ∀ {G : List (Nat × Con)}, aEi f as s K Kp G = some z → ∃ C p, (f, C) ∈ G ∧ prep C as s = some p ∧ rL f as s G = p.2.1 ∧ aUh C p K Kp = some z
 | [], h => by simp [aEi] at h
 | (g, C) :: G, h => by
  simp only [aEi] at h
  split at h
  ·rename_i e
   subst e
   split at h
   ·rename_i p hp
    exact ⟨C, p, List.mem_cons_self, hp, by simp [rL, hp], h⟩
   ·rename_i hp
    obtain ⟨C', p, h1, h2, h3, h4⟩ := rP h
    exact ⟨C', p, List.mem_cons_of_mem _ h1, h2, by simp only [rL, hp, if_true]; exact h3, h4⟩
  ·rename_i e
   obtain ⟨C', p, h1, h2, h3, h4⟩ := rP h
   exact ⟨C', p, List.mem_cons_of_mem _ h1, h2, by simp only [rL, e, if_false]; exact h3, h4⟩
theorem kY {f : Nat} (hf : Callable P f) (args : Array Value) (w : World) : (callFunc f args).run P w = .ok (.enter f args) w := by
 obtain ⟨fn, c, h1, h2, h3⟩ := hf.ex
 have h4 : fn.name ≠ "runtime.NumGoroutine" := by simpa using h2
 simp [callFunc, h1, h4, h3]
theorem aWu (t : TypeId) (u : Value) (w : World) : (Instr.panic (.iface t u)).run P w = .halt (.panic (.iface t u)) w := by
 simp [Instr.panic, goPanic]
theorem aEm {Z : Type} (hG : GOk P gl G) (h : Inv gl E s a w ρ F) {o : Oper} {K Kp : AVal → St → Option Z} {z : Z} (hz : ao1 P gl kd G o.op s K Kp = some z) {KK : Act → World → Prop} {Q : Exit → Act → World → Prop}
  (hK : ∀ v s' w' ρ' F' val, Nx gl E ρ F s w (wrNs gl G o.op s) s' a w' ρ' F' v val → K v s' = some z → KK (a.put o.dst val) w')
  (hQ : ∀ v s' w' ρ' F' x, Inv gl E s' a w' ρ' F' → VR ρ' w' F' (Bx F' E.L) v x → Kp v s' = some z → Q (.panic [{ v := x, recovered := false }]) a w') : o.wp P a w KK Q := by
 have Ev := fun x => kF h.rep h.glo x
 have eff : ∀ {v : AVal} {s' : St}, aopE P gl kd o.op s = some (true, v, s') → K v s' = some z → wrNs gl G o.op s = (wrN gl o.op s).toList → o.wp P a w KK Q := fun {v s'} he hk hws => by
  obtain ⟨val, w', ρ', F', h1, h2, h3, h4, h5, h6, h7⟩ := aOo h.rep h.glo he
  have key : KK (a.put o.dst val) w' := hK v s' w' ρ' F' val (.mk' h h2 h3 h5 h4 (h6.mono (fun b ⟨n, x, k1, k2, k3⟩ => ⟨n, by rw [hws, k1]; simp, x, k2, k3⟩)) (fun n x o' b k1 k2 k3 k4 k5 => by
   obtain ⟨m, y, o2, j1, j2, j3, j4, j5⟩ := h7 n x o' b k1 k2 k3 k4 k5
   exact ⟨m, y, o2, j1, j2, j3, j4, j5.imp id (fun e => by rw [hws, e]; simp)⟩)) hk
  unfold Oper.wp
  rcases h1 with h1 | ⟨h1, rfl⟩
  ·rw [h1]; exact key
  ·rw [h1]; exact key
 have pan : ∀ {t : TypeId} {v : AVal} {x : Operand}, ev gl s x = .ifc t v → Kp (.ifc t v) s = some z → (execOp a.eval o).run P w = (do let v ← Instr.panic (a.eval x); pure (.value v) : Sem Next).run P w → o.wp P a w KK Q := fun {t v x} he hk hr => by
  have hx := Ev x
  rw [he] at hx
  simp only [VR] at hx
  obtain ⟨u, h1, h2⟩ := hx
  unfold Oper.wp
  rw [hr, h1, Sem.run_bind, aWu]
  exact hQ (.ifc t v) s w ρ F _ h (by simp only [VR]; exact ⟨u, rfl, h2⟩) hk
 unfold ao1 at hz
 by_cases hp : vK o.op = true
 ·rw [if_pos hp] at hz
  obtain ⟨⟨q, v⟩, h1, hz⟩ := Option.bind_eq_some_iff.1 hz
  cases q
  ·cases hz
  ·obtain ⟨val, h2, h3⟩ := aBm h.rep h.glo h1
   unfold Oper.wp
   rw [h2 w]
   exact hK v s w ρ F val (.same h h3 _) hz
 ·rw [if_neg hp] at hz
  obtain ⟨dst, op, ty, pos, aft, guard⟩ := o
  dsimp only at hz hp
  cases op <;> dsimp only at hz
  case load t x =>
   obtain ⟨v, h1, hz⟩ := Option.bind_eq_some_iff.1 hz
   obtain ⟨val, b, h2, h3, _⟩ := vN h.rep h1 (Ev x)
   unfold Oper.wp
   have : (execOp a.eval { dst, op := Op.load t x, type := ty, pos, after := aft, guard }).run P w = .ok (.value val) w := by
    simp [execOp, h2 w rfl]
   rw [this]
   exact hK v s w ρ F val (.same h h3 _) hz
  case panic x =>
   split at hz
   ·rename_i t v he
    exact pan he hz (by simp [execOp])
   ·cases hz
  case call c =>
   split at hz
   ·rename_i fo hc
    obtain ⟨⟨f, as⟩, h1, hz⟩ := Option.bind_eq_some_iff.1 hz
    dsimp only at hz
    obtain ⟨C, p, h2, h3, h4, h5⟩ := rP hz
    obtain ⟨y, h6, h7, h8⟩ := aOr h5
    obtain ⟨hcl, hsd⟩ := hG _ h2
    have hws : wrNs gl G (.call c) s = p.2.1 := by simp only [wrNs, h1]; exact h4
    unfold callee at h1
    rw [hc] at h1
    dsimp only at h1
    split at h1
    ·rename_i g caps he
     cases h1
     have hx := Ev fo
     rw [he] at hx
     simp only [VR] at hx
     obtain ⟨cs, ⟨hx1, hx3⟩, hx2⟩ := hx
     have hv : VRs ρ w F (Bx F E.L) (caps.take (g / 1000000) ++ c.args.toList.map (ev gl s) ++ caps.drop (g / 1000000)) (cs.extract 0 (g / 1000000) ++ c.args.map a.eval ++ cs.extract (g / 1000000) cs.size).toList := by
      have k1 := hx2.sub 0 (g / 1000000)
      have k2 := hx2.sub (g / 1000000) (caps.length)
      have hl := hx2.length
      rw [List.take_of_length_le (by simp), List.take_of_length_le (by simp [hl])] at k2
      simp only [List.drop_zero] at k1
      have := (k1.append (cY h.rep h.glo c.args.toList)).append k2
      simp only [Array.toList_append, Array.toList_map, Array.toList_extract, List.extract_eq_take_drop, List.drop_zero, Nat.sub_zero]
      rw [List.take_of_length_le (l := List.drop (g / 1000000) cs.toList) (by simp)]
      exact this
     have hrun : (execOp a.eval { dst, op := Op.call c, type := ty, pos, after := aft, guard }).run P w = .ok (.enter (g % 1000000) (cs.extract 0 (g / 1000000) ++ c.args.map a.eval ++ cs.extract (g / 1000000) cs.size)) w := by
      simp only [execOp, Sem.run_bind]
      unfold resolve
      simp [hc, hx1, Deferred.ofValue, invoke, kY hcl]
     unfold Oper.wp
     rw [hrun]
     refine (rO hsd h.rep h.glo (vs := cs.extract 0 (g / 1000000) ++ c.args.map a.eval ++ cs.extract (g / 1000000) cs.size) hv h3 h6 h7).mono ?_
     rintro e w' ⟨ρ', F', o1, o2, o3, o4, o5, o6⟩
     have nx : ∀ {v : AVal} {val : Value}, VR ρ' w' F' (Bx F' E.L) v val → Nx gl E ρ F s w (wrNs gl G (.call c) s) (after p.1 p.2.1 C.fix (C.out y).2) a w' ρ' F' v val := fun hv => .mk' h o2 o3 o4 hv (by rw [hws]; exact o5) (by rw [hws]; exact o6)
     generalize (C.out y).1 = out at o1 h8
     cases out with
     | ret v =>
      obtain ⟨x, rfl, k⟩ := o1
      exact hK _ _ _ _ _ _ (nx k) h8
     | pan v =>
      obtain ⟨x, rfl, k⟩ := o1
      exact hQ _ _ _ _ _ _ (nx k).inv k h8
    ·cases h1
   ·rename_i hc
    split at hz
    ·rename_i t v he
     have hsz : ∃ x, c.args = #[x] ∧ ev gl s x = .ifc t v := by
      rcases hl : c.args.toList with _ | ⟨x, _ | ⟨x2, l⟩⟩
      ·rw [hl] at he; simp at he
      ·rw [hl] at he
       exact ⟨x, by rw [← Array.toList_inj]; simpa using hl, by simpa using he⟩
      ·rw [hl] at he; simp at he
     obtain ⟨x, hx, he⟩ := hsz
     refine pan he hz ?_
     simp only [execOp, Sem.run_bind]
     unfold resolve
     simp [hc, hx, invoke, builtin]
    ·cases hz
   ·rename_i b hnb hc
    obtain ⟨⟨q, v, s'⟩, h1, hz⟩ := Option.bind_eq_some_iff.1 hz
    cases q
    ·cases hz
    ·exact eff h1 hz (by simp [wrNs, callee, hc])
   ·cases hz
  all_goals (
   obtain ⟨⟨q, v, s'⟩, h1, hz⟩ := Option.bind_eq_some_iff.1 hz
   cases q
   ·cases hz
   ·exact eff h1 hz rfl)
end
end Go.Ax
