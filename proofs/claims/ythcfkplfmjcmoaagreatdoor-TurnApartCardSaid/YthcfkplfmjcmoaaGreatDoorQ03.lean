/- Merged. -/
import Derived.Test.YthcfkplfmjcmoaaGreatDoorQ02
import Derived.Laws.StructEq
namespace Go.Ax
open Go.RowKit
set_option linter.unusedVariables false
set_option linter.unusedSimpArgs false
section
variable {P : Program} {gl : Glb} {ρ : List Value} {F L B : Nat → Prop} {s : St} {a : Act} {w : World}
def Pu (P : Program) (o : Oper) (a : Act) (val : Value) : Prop := ∀ w, (execOp a.eval o).run P w = .ok (.value val) w
theorem Pu.of {o : Oper} {val : Value} {e : Sem Value} (h : ∀ w, e.run P w = .ok val w) (ho : execOp a.eval o = (do pure (.value (← e)))) : Pu P o a val := fun w => by
 rw [ho, Sem.run_bind, h w]
 simp
theorem wZ {t : TypeId} {f : Nat} {r : Nat × TypeId} (h : aBj P t f = some r) : ∃ fs fd, P.underlying t = some (.struct fs) ∧ fs[f]? = some fd ∧ r = (fd.offset, fd.type) := by
 unfold aBj at h
 split at h
 ·rename_i fs hfs
  obtain ⟨fd, h1, rfl⟩ := Option.map_eq_some_iff.1 h
  exact ⟨fs, fd, hfs, h1, rfl⟩
 ·cases h
theorem kH {t : TypeId} {f : Nat} {r : Nat × TypeId} (h : aBj P t f = some r) (hz : ¬ (szT P r.2 = some 0 ∨ szT P r.2 = none)) (b o : Nat) (w : World) :
  (Instr.fieldAt t (.pointer (some ⟨b, o, none⟩)) f).run P w = .ok (.pointer (some ⟨b, o + r.1, none⟩)) w := by
 obtain ⟨fs, fd, h1, h2, rfl⟩ := wZ h
 cases hs : szT P fd.type with
 | none => exact absurd (.inr hs) hz
 | some n =>
  have hn : n ≠ 0 := fun e => hz (.inl (by rw [← e]; exact hs))
  simp [Instr.fieldAt, run_underlying h1, h2, Instr.sureAddr, fieldPlace, gO hs, hn, Addr.add_lit]
theorem aUg {t : TypeId} (h : u64T P t = true) : P.underlying t = some (.int .u64) := by
 unfold u64T at h
 split at h
 ·assumption
 ·cases h
theorem qK {t : TypeId} (h : intT P t = true) : P.underlying t = some (.int .i64) := by
 unfold intT at h
 split at h <;> simp_all
theorem aBk {t : TypeId} (h : aUf P t = true) : P.underlying t = some .bool := by
 unfold aUf at h
 split at h <;> simp_all
theorem aGc {t : TypeId} (h : P.underlying t = some (.int .i64)) (d : Nat) (p r : Int) (w1 : World) : (Op.equalIn (d + 1) t (.int .i64 p) (.int .i64 r)).run P w1 = .ok (p == r) w1 := by
 simp only [Op.equalIn, Sem.run_bind, run_underlying h, Result.andThen_ok]
 simp
theorem rC {t : TypeId} (h : P.underlying t = some .bool) (d : Nat) (p r : Bool) (w1 : World) : (Op.equalIn (d + 1) t (.bool p) (.bool r)).run P w1 = .ok (p == r) w1 := by
 simp only [Op.equalIn, Sem.run_bind, run_underlying h, Result.andThen_ok]
 simp
theorem sJ {t e : TypeId} (h : P.underlying t = some (.slice e)) (d : Nat) (A : Option Addr) (n c : Nat) (w1 : World) : (Op.equalIn (d + 1) t (.slice A n c) (.slice none 0 0)).run P w1 = .ok A.isNone w1 := by
 simp only [Op.equalIn, Sem.run_bind, run_underlying h, Result.andThen_ok]
 cases A <;> simp
theorem aBl {t u : TypeId} {ms : Array (String × TypeId)} (h : P.underlying t = some (.interface ms)) (d : Nat) (v : Value) (w1 : World) : (Op.equalIn (d + 1) t (.iface u v) .nilIface).run P w1 = .ok false w1 := by
 simp only [Op.equalIn, Sem.run_bind, run_underlying h, Result.andThen_ok]
 simp
theorem rD {t : TypeId} (h : P.underlying t = some (.int .i64) ∨ P.underlying t = some .bool) {cs : Array Value} {o : Nat} {v : Value} (hv : cs[o]? = some v) (w1 : World) : (part t cs o).run P w1 = .ok v w1 := by
 have hq : aggT P t = some false := by rcases h with h | h <;> simp [aggT, h]
 simp [part, Sem.run_bind, lV hq, hv]
theorem lW {d : Nat} {xs ys : Array Value} : ∀ {fs : List Field} {l r : List AVal} {o : Nat} {q : Bool}, pM P o fs l = true → eqL l r = some q → VRs ρ w F B l (xs.toList.drop o) → VRs ρ w F B r (ys.toList.drop o) → ∀ w1, (Op.eqFields (d + 1) xs ys fs).run P w1 = .ok q w1
 | [], [], r, o, q, _, h, _, _, w1 => by
  cases r <;> simp_all [eqL, Op.eqFields]
 | [], _ :: _, _, _, _, h, _, _, _, _ => by simp [pM] at h
 | f :: fs, [], _, _, _, h, _, _, _, _ => by simp [pM] at h
 | f :: fs, v :: l, r, o, q, hf, h, hx, hy, w1 => by
  have key : ∀ (u v' : Value) (p : Bool) (q' : Bool) (l' : List AVal), (f.name == "_") = false → xs[o]? = some u → ys[o]? = some v' → (P.underlying f.type = some (.int .i64) ∨ P.underlying f.type = some .bool) → f.offset = o → (Op.equalIn (d + 1) f.type u v').run P w1 = .ok p w1 →
    (Op.eqFields (d + 1) xs ys fs).run P w1 = .ok q' w1 → (Op.eqFields (d + 1) xs ys (f :: fs)).run P w1 = .ok (p && q') w1 := by
   intro u v' p q' l' hn hu hv' ht ho he hr
   have hn' : f.name ≠ "_" := by simpa using hn
   rw [Op.eqFields]
   simp only [if_pos hn', Sem.run_bind, rD ht (ho ▸ hu) w1, rD ht (ho ▸ hv') w1, he, Result.andThen_ok]
   cases p
   ·simp
   ·simpa using hr
  cases hxd : xs.toList.drop o with
  | nil => rw [hxd] at hx; simp [VRs] at hx
  | cons u us =>
   rw [hxd] at hx
   simp only [VRs] at hx
   have hu : xs[o]? = some u := by
    have := congrArg (fun z => z[0]?) hxd
    simpa [List.getElem?_drop] using this
   have hus : xs.toList.drop (o + 1) = us := by
    have := congrArg List.tail hxd
    simpa [List.tail_drop] using this
   cases r with
   | nil => cases v <;> simp [eqL] at h
   | cons v2 r =>
    cases hyd : ys.toList.drop o with
    | nil => rw [hyd] at hy; simp [VRs] at hy
    | cons u2 us2 =>
     rw [hyd] at hy
     simp only [VRs] at hy
     have hu2 : ys[o]? = some u2 := by
      have := congrArg (fun z => z[0]?) hyd
      simpa [List.getElem?_drop] using this
     have hus2 : ys.toList.drop (o + 1) = us2 := by
      have := congrArg List.tail hyd
      simpa [List.tail_drop] using this
     cases v with
     | int p =>
      cases v2 with
      | int p2 =>
       simp only [pM, Bool.and_eq_true, beq_iff_eq, bne_iff_ne] at hf
       obtain ⟨⟨⟨h1, h2⟩, h3⟩, h4⟩ := hf
       simp only [eqL] at h
       obtain ⟨q', h5, rfl⟩ := Option.map_eq_some_iff.1 h
       have e1 := hx.1
       have e2 := hy.1
       simp only [VR] at e1 e2
       subst e1
       subst e2
       exact key _ _ _ _ l (by simpa using h2) hu hu2 (.inl (qK h3)) h1 (aGc (qK h3) d p p2 w1) (lW h4 h5 (by rw [hus]; exact hx.2) (by rw [hus2]; exact hy.2) w1)
      | _ => simp [eqL] at h
     | bool p =>
      cases v2 with
      | bool p2 =>
       simp only [pM, Bool.and_eq_true, beq_iff_eq, bne_iff_ne] at hf
       obtain ⟨⟨⟨h1, h2⟩, h3⟩, h4⟩ := hf
       simp only [eqL] at h
       obtain ⟨q', h5, rfl⟩ := Option.map_eq_some_iff.1 h
       have e1 := hx.1
       have e2 := hy.1
       simp only [VR] at e1 e2
       subst e1
       subst e2
       exact key _ _ _ _ l (by simpa using h2) hu hu2 (.inr (aBk h3)) h1 (rC (aBk h3) d p p2 w1) (lW h4 h5 (by rw [hus]; exact hx.2) (by rw [hus2]; exact hy.2) w1)
      | _ => simp [eqL] at h
     | _ => simp [eqL] at h
theorem yB {op : BinOp} {t : TypeId} {ox oy : Operand} {xs ys : Array Value} (h : P.eqGuardType P.depth t = false) (w1 : World) : (eqGuard op t ox oy (.agg xs) (.agg ys)).run P w1 = .ok () w1 := by
 unfold eqGuard
 cases op <;> simp [h]
theorem nN {op : BinOp} {t : TypeId} {ox oy : Operand} {u v : Value} {q : Bool} (ho : op = .eql ∨ op = .neq) (w1 : World) (hg : (eqGuard op t ox oy u v).run P w1 = .ok () w1) (hb : binOp .eql t u v = (do pure (.bool (← Op.equal t u v)))) (hb' : binOp .neq t u v = (do pure (.bool (!(← Op.equal t u v))))) (he : (Op.equalIn (9999 + 1) t u v).run P w1 = .ok q w1) :
  (do eqGuard op t ox oy u v; binOp op t u v : Sem Value).run P w1 = .ok (.bool (if op = .eql then q else !q)) w1 := by
 have he' : (Op.equal t u v).run P w1 = .ok q w1 := he
 rw [Sem.run_bind, hg, Result.andThen_ok]
 rcases ho with rfl | rfl
 ·rw [hb]; simp [Sem.run_bind, he']
 ·rw [hb']; simp [Sem.run_bind, he']
theorem aEc {op : BinOp} {t : TypeId} {x y : AVal} {ox oy : Operand} {u v : Value} {q : Bool} (h : eqA P t x y = some q) (hx : VR ρ w F B x u) (hy : VR ρ w F B y v) (ho : op = .eql ∨ op = .neq) (hi : ∀ a b, ¬ (x = .int a ∧ y = .int b)) (w1 : World) :
  (do eqGuard op t ox oy u v; binOp op t u v : Sem Value).run P w1 = .ok (.bool (if op = .eql then q else !q)) w1 := by
 unfold eqA at h
 split at h
 ·exact absurd ⟨rfl, rfl⟩ (hi _ _)
 ·rename_i p r
  simp only [VR] at hx hy
  subst hx
  subst hy
  split at h
  ·rename_i hb
   cases h
   refine nN ho w1 (by rw [eqGuard_at_bool]; simp) rfl rfl (rC (aBk hb) _ _ _ w1)
  ·cases h
 ·rename_i e xs c
  simp only [VR] at hx hy
  subst hy
  split at h
  ·rename_i e' he
   split at h
   ·rename_i hn
    cases h
    rw [cH hn]
    obtain ⟨hr, hnil⟩ := hx
    obtain ⟨A, n, k, rfl, hA⟩ : ∃ A n k, u = .slice A n k ∧ A.isNone = xs.isEmpty := by
     cases xs with
     | nil => exact ⟨none, 0, 0, hnil rfl, rfl⟩
     | cons z zs => cases hr; exact ⟨_, _, _, rfl, rfl⟩
    rw [← hA]
    refine nN ho w1 (by rw [eqGuard_at_slice]; simp) rfl rfl (sJ he _ _ _ _ w1)
   ·cases h
  ·cases h
 ·rename_i l r
  simp only [VR] at hx hy
  obtain ⟨cs, rfl, h1⟩ := hx
  obtain ⟨ds, rfl, h2⟩ := hy
  split at h
  ·rename_i fs hfs
   split at h
   ·rename_i hc
    simp only [Bool.and_eq_true, Bool.not_eq_true'] at hc
    obtain ⟨⟨c1, c2⟩, c3⟩ := hc
    have hff : P.fieldsOf t = fs := by simp [Program.fieldsOf, hfs]
    refine nN ho w1 (yB c3 w1) rfl rfl ?_
    ·rw [run_equalIn_struct (P := P) w1 9999 t cs ds (by rw [hff]; exact hfs) c2, hff]
     exact lW (d := 9998) c1 h (by simpa using h1) (by simpa using h2) w1
   ·cases h
  ·cases h
 ·rename_i A n1 n2 c
  simp only [VR] at hx hy
  subst hx hy
  split at h
  ·rename_i e' he
   split at h
   ·rename_i hn
    cases h
    rw [cH hn]
    refine nN ho w1 (by rw [eqGuard_at_slice]; simp) rfl rfl (sJ he _ _ _ _ w1)
   ·cases h
  ·cases h
 ·rename_i t' v' c
  simp only [VR] at hx hy
  subst hy
  obtain ⟨z, rfl, _⟩ := hx
  split at h
  ·rename_i ms he
   cases h
   refine nN ho w1 (by rw [eqGuard_at_iface]; simp) rfl rfl (aBl he _ _ w1)
  ·cases h
 ·cases h
theorem aOk {op : BinOp} {t : TypeId} {x y : AVal} {ox oy : Operand} {u v : Value} {r : AVal} (h : binA P op t x y = some (true, r)) (hx : VR ρ w F B x u) (hy : VR ρ w F B y v) :
  ∃ val, (∀ w1, (do eqGuard op t ox oy u v; binOp op t u v : Sem Value).run P w1 = .ok val w1) ∧ VR ρ w F B r val := by
 unfold binA at h
 split at h
 ·rename_i p q
  simp only [VR] at hx hy
  subst hx
  subst hy
  cases op <;> simp only [Option.some.injEq, Prod.mk.injEq, true_and, reduceCtorEq] at h
  case quo =>
   obtain ⟨hq, rfl⟩ := h
   have hq' : ¬ q = 0 := by simpa using hq
   exact ⟨_, fun w1 => (by simp [eqGuard_at_int, binOp_quo, Op.intDiv, hq']; try rfl), rfl⟩
  case rem =>
   obtain ⟨hq, rfl⟩ := h
   have hq' : ¬ q = 0 := by simpa using hq
   exact ⟨_, fun w1 => (by simp [eqGuard_at_int, binOp_rem, Op.intDiv, hq']; try rfl), rfl⟩
  case shl =>
   obtain ⟨h0, rfl⟩ := h
   have h0' : 0 ≤ q := of_decide_eq_true h0
   exact ⟨_, fun w1 => (by simp [eqGuard_at_int, binOp, Op.shift, Int.not_lt.2 h0', IntKind.bits, aBh, w64]), rfl⟩
  case shr =>
   obtain ⟨h0, rfl⟩ := h
   have h0' : 0 ≤ q := of_decide_eq_true h0
   exact ⟨_, fun w1 => (by simp [eqGuard_at_int, binOp, Op.shift, Int.not_lt.2 h0', IntKind.bits, aB]), rfl⟩
  case and => subst h; exact ⟨_, fun w1 => (by simp [eqGuard_at_int, binOp, Op.intBits, IntKind.bits, wX, w64]; exact congrArg IntKind.i64.wrap (congrArg Int.ofNat ((BitVec.toNat_and (BitVec.ofInt 64 p) (BitVec.ofInt 64 q)).trans (by rw [BitVec.toNat_ofInt, BitVec.toNat_ofInt]; rfl)))), rfl⟩
  case or => subst h; exact ⟨_, fun w1 => (by simp [eqGuard_at_int, binOp, Op.intBits, IntKind.bits, or64, w64]; exact congrArg IntKind.i64.wrap (congrArg Int.ofNat ((BitVec.toNat_or (BitVec.ofInt 64 p) (BitVec.ofInt 64 q)).trans (by rw [BitVec.toNat_ofInt, BitVec.toNat_ofInt]; rfl)))), rfl⟩
  all_goals subst h; exact ⟨_, fun w1 => (by simp [eqGuard_at_int, binOp_add, binOp_sub, binOp_mul, binOp_eql, binOp_neq, binOp_lss, binOp_leq, binOp_gtr, binOp_geq, Op.intArith]; try rfl), rfl⟩
 ·rename_i p q
  simp only [VR] at hx hy
  subst hx
  subst hy
  split at h
  ·split at h
   ·rename_i h0
    cases h
    exact ⟨_, fun w1 => (by simp [eqGuard_at_int, binOp, Op.shift, Int.not_lt.2 h0, IntKind.bits, aBh, w64]), rfl⟩
   ·cases h
  ·split at h
   ·rename_i h0
    cases h
    exact ⟨_, fun w1 => (by simp [eqGuard_at_int, binOp, Op.shift, Int.not_lt.2 h0, IntKind.bits, aB]), rfl⟩
   ·cases h
  ·cases h
 ·rename_i p q
  simp only [VR] at hx hy
  subst hx
  subst hy
  split at h
  ·split at h
   ·rename_i h0
    cases h
    exact ⟨_, fun w1 => (by simp [eqGuard_at_int, binOp, Op.shift, Int.not_lt.2 h0, IntKind.bits, aB]), rfl⟩
   ·cases h
  ·cases h
 ·rename_i p q
  simp only [VR] at hx hy
  subst hx
  subst hy
  split at h
  ·split at h
   ·rename_i h0
    cases h
    exact ⟨_, fun w1 => (by simp [eqGuard_at_int, binOp, Op.shift, Int.not_lt.2 h0, IntKind.bits, aB]), rfl⟩
   ·cases h
  ·cases h
 ·rename_i hne _ _ _
  have hi : ∀ a b, ¬ (x = .int a ∧ y = .int b) := fun a b hab => hne a b hab.1 hab.2
  split at h
  ·obtain ⟨q, h1, h2⟩ := Option.map_eq_some_iff.1 h
   cases h2
   exact ⟨_, fun w1 => aEc h1 hx hy (.inl rfl) hi w1, rfl⟩
  ·obtain ⟨q, h1, h2⟩ := Option.map_eq_some_iff.1 h
   cases h2
   exact ⟨_, fun w1 => aEc h1 hx hy (.inr rfl) hi w1, rfl⟩
  ·cases h
end
end Go.Ax
