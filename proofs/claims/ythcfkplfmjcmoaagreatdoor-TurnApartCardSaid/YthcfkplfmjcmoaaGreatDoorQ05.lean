/- Merged. -/
import Derived.Test.YthcfkplfmjcmoaaGreatDoorQ04
import Derived.Laws.Small
namespace Go.Ax
open Go.RowKit
set_option linter.unusedVariables false
set_option linter.unusedSimpArgs false
section
variable {P : Program} {gl : Glb} {ρ : List Value} {F L B : Nat → Prop} {s : St} {a : Act} {w : World}
theorem pO {i : Int} {n : Nat} (h : inR i n = true) : 0 ≤ i ∧ i < (n : Int) := by simpa [inR] using h
theorem Rd.addr {Q : Nat → Prop} {k : EK} {xs : List k.T} {v : Value} (h : Rd w Q (.sl k) xs [v]) {i : Int} (hi : inR i xs.length = true) :
  ∃ b o cap row, v = .slice (some ⟨b, o, none⟩) xs.length cap ∧ Q b ∧ Rd w Q k (rd xs i) row ∧ ∀ (j : Nat) (u : Value), row[j]? = some u → w.cell? ⟨b, o + i.toNat * k.sz + j, none⟩ = some u := by
 obtain ⟨h1, h2, h3⟩ := rd_at hi
 cases h with
 | nil e => simp at h1
 | sl e xs b o cap rows hF hc hr hz hw =>
  refine ⟨b, o, cap, rows i.toNat, rfl, hF, ?_, fun j u hu => hw i.toNat j u h1 hu⟩
  rw [h2]
  exact hr i.toNat h1
theorem Rd.slice {Q : Nat → Prop} {k : EK} {xs : List k.T} {v : Value} (h : Rd w Q (.sl k) xs [v]) : ∃ A cap, v = .slice A xs.length cap ∧ xs.length ≤ cap := by
 cases h with
 | nil e A => exact ⟨A, 0, rfl, by simp⟩
 | sl e xs b o cap rows hF hc hr hz hw => exact ⟨_, cap, rfl, hc⟩
theorem Rd.take {Q : Nat → Prop} {k : EK} {xs : List k.T} {A : Option Addr} {len cap : Nat} (h : Rd w Q (.sl k) xs [.slice A len cap]) (n : Nat) (hn : n ≤ xs.length) : Rd w Q (.sl k) (xs.take n) [.slice A n cap] := by
 generalize hv : Value.slice A len cap = v at h
 cases h with
 | nil e =>
  cases hv
  obtain rfl : n = 0 := by simpa using hn
  simpa using Rd.nil k A
 | sl e xs b o cap rows hF hc hr hz hw =>
  cases hv
  have e1 : (xs.take n).length = n := by simp; omega
  have := Rd.sl (w := w) (F := Q) k (xs.take n) b o cap rows hF (by omega) (fun i hi => by rw [List.getElem_take]; exact hr i (by omega)) (fun i hi => hz i (by omega)) (fun i j v hi hj => hw i j v (by omega) hj)
  rwa [e1] at this
theorem Rd.drop {Q : Nat → Prop} {k : EK} {xs : List k.T} {A : Option Addr} {len cap : Nat} (h : Rd w Q (.sl k) xs [.slice A len cap]) (n : Nat) (hn : n ≤ xs.length) :
  Rd w Q (.sl k) (xs.drop n) [.slice (if cap = n then A else A.map (·.add (n * k.sz))) (len - n) (cap - n)] := by
 generalize hv : Value.slice A len cap = v at h
 cases h with
 | nil e =>
  cases hv
  obtain rfl : n = 0 := by simpa using hn
  simpa using Rd.nil k A
 | sl e xs b o cap rows hF hc hr hz hw =>
  cases hv
  have e1 : (xs.drop n).length = xs.length - n := by simp
  by_cases c : cap = n
  ·rw [if_pos c]
   have e2 : xs.drop n = [] := List.drop_eq_nil_of_le (by omega)
   have := Rd.sl (w := w) (F := Q) k (xs.drop n) b o (cap - n) rows hF (by rw [e1]; omega) (fun i hi => by rw [e1] at hi; omega) (fun i hi => by rw [e1] at hi; omega) (fun i j v hi hj => by rw [e1] at hi; omega)
   rwa [e1] at this
  ·rw [if_neg c]
   have := Rd.sl (w := w) (F := Q) k (xs.drop n) b (o + n * k.sz) (cap - n) (fun i => rows (n + i)) hF (by rw [e1]; omega) (fun i hi => by rw [List.getElem_drop]; exact hr (n + i) (by rw [e1] at hi; omega)) (fun i hi => hz (n + i) (by rw [e1] at hi; omega))
    (fun i j v hi hj => by
     have := hw (n + i) j v (by rw [e1] at hi; omega) hj
     rwa [show o + n * k.sz + i * k.sz + j = o + (n + i) * k.sz + j by rw [Nat.add_mul]; omega])
   rw [e1] at this
   simpa [Addr.add_lit] using this
theorem mY {o : Oper} {x : Operand} {val : Value} (ho : o.op = .nilCheck x) (hx : a.eval x = val) (h1 : val ≠ .pointer none) (h2 : val ≠ .nilIface) (h3 : val ≠ .nilFunc) (h4 : ∀ m fs cs, val ≠ .func (.method m) fs cs) : Pu P o a val := fun w1 => by
 unfold execOp
 simp only [ho, hx]
 cases val with
 | pointer q => cases q <;> simp_all
 | func fn fs cs => cases fn <;> simp_all
 | _ => simp_all
theorem cG {t e : TypeId} {b o len cap : Nat} {i : Int} {n : Nat} (ht : P.underlying t = some (.slice e)) (hs : szT P e = some n) (h0 : 0 ≤ i) (hi : i < (len : Int)) (w1 : World) :
  (Instr.indexAt t (.slice (some ⟨b, o, none⟩) len cap) (.int .i64 i)).run P w1 = .ok (.pointer (some ⟨b, o + i.toNat * n, none⟩)) w1 := by
 simp [Instr.indexAt, run_underlying ht, asIntOf, h0, hi, gO hs, Addr.add_lit]
theorem nO {t e : TypeId} {b o len : Nat} {i : Int} {n : Nat} (ht : P.underlying t = some (.array len e)) (hs : szT P e = some n) (h0 : 0 ≤ i) (hi : i < (len : Int)) (w1 : World) :
  (Instr.indexAt t (.pointer (some ⟨b, o, none⟩)) (.int .i64 i)).run P w1 = .ok (.pointer (some ⟨b, o + i.toNat * n, none⟩)) w1 := by
 simp [Instr.indexAt, run_underlying ht, asIntOf, Instr.sureAddr, h0, hi, gO hs, Addr.add_lit]
theorem mZ {t e : TypeId} {A : Option Addr} {len cap : Nat} {h : Int} (ht : P.underlying t = some (.slice e)) (hs : (P.info? e).isSome = true) (h0 : 0 ≤ h) (hc : h ≤ (cap : Int)) (w1 : World) :
  (Instr.sliceAt t (.slice A len cap) none (some (.int .i64 h)) none).run P w1 = .ok (.slice A h.toNat cap) w1 := by
 obtain ⟨i, hi⟩ := Option.isSome_iff_exists.1 hs
 cases A <;> simp [Instr.sliceAt, Instr.slice, run_underlying ht, Instr.sliceBounds, Instr.sliceBound, asIntOf, h0, hc, sizeOf, typeInfo, hi, Addr.add]
theorem pP {t e : TypeId} {A : Option Addr} {len cap n : Nat} {l : Int} (ht : P.underlying t = some (.slice e)) (hs : szT P e = some n) (h0 : 0 ≤ l) (hc : l ≤ (len : Int)) (w1 : World) :
  (Instr.sliceAt t (.slice A len cap) (some (.int .i64 l)) none none).run P w1 = .ok (.slice (if cap = l.toNat then A else A.map (·.add (l.toNat * n))) (len - l.toNat) (cap - l.toNat)) w1 := by
 simp [Instr.sliceAt, Instr.slice, run_underlying ht, Instr.sliceBounds, Instr.sliceBound, asIntOf, h0, hc, gO hs]
end
section
variable {P : Program} {gl : Glb} {ρ : List Value} {F L B : Nat → Prop} {s : St} {a : Act} {w : World}
theorem oA (hR : Rep ρ F L s a w) {n : Nat} {k : EK} {xs : List k.T} (ho : s.hp[n]? = some (.arr k xs)) : ∃ A cap, ρ[n]? = some (.slice A xs.length cap) ∧ xs.length ≤ cap ∧ (A = none → xs = [] ∧ cap = 0) ∧ ∀ x, A = some x → ∃ b, x = ⟨b, 0, none⟩ := by
 obtain ⟨v, hv, h⟩ := hR.h.at ho
 rcases h with ⟨rfl, rfl⟩ | ⟨b, cap, cs, ty, rows, rfl, h2, h3, _⟩
 ·exact ⟨none, 0, hv, by simp, fun _ => ⟨rfl, rfl⟩, fun x hx => by cases hx⟩
 ·exact ⟨_, cap, hv, h3, fun h => (by cases h), fun x hx => ⟨b, by cases hx; rfl⟩⟩
theorem sK (w1 : World) : ∀ (xs : List Int) (x : Int), ((xs.map (Value.int .i64)).foldlM Builtin.min2 (.int .i64 x)).run P w1 = .ok (.int .i64 (xs.foldl min x)) w1
 | [], x => by simp
 | y :: xs, x => by
  simp only [List.map_cons, List.foldlM_cons, Builtin.min2, Sem.run_bind, Sem.run_pure, Result.andThen_ok, List.foldl_cons]
  rw [sK w1 xs]
  congr 3
  rw [Int.min_def]
  split <;> split <;> omega
theorem sL (w1 : World) : ∀ (xs : List Int) (x : Int), ((xs.map (Value.int .i64)).foldlM Builtin.max2 (.int .i64 x)).run P w1 = .ok (.int .i64 (xs.foldl max x)) w1
 | [], x => by simp
 | y :: xs, x => by
  simp only [List.map_cons, List.foldlM_cons, Builtin.max2, Sem.run_bind, Sem.run_pure, Result.andThen_ok, List.foldl_cons]
  rw [sL w1 xs]
  congr 3
  rw [Int.max_def]
  split <;> split <;> omega
theorem aEe : ∀ {xs : List Int} {vs : List Value}, VRs ρ w F B (xs.map AVal.int) vs → vs = xs.map (Value.int .i64)
 | [], vs, h => by cases vs <;> simp_all [VRs]
 | x :: xs, [], h => by simp [VRs] at h
 | x :: xs, v :: vs, h => by
  simp only [List.map_cons, VRs, VR] at h
  rw [h.1, aEe h.2]
  rfl
theorem aJb (hR : Rep ρ F L s a w) (hg : Glo gl w F) {args : Array Operand} {l : List AVal} {x : Int} {xs : List Int} (hl : args.toList.map (ev gl s) = l) (h : ints (l.map some) = some (x :: xs)) : args.map a.eval = (Value.int .i64 x :: xs.map (Value.int .i64)).toArray ∧ True := by
 have h1 := vM h
 have h2 : l = (x :: xs).map AVal.int := by
  have : l.map some = ((x :: xs).map AVal.int).map some := by rw [h1]; simp
  have inj : ∀ (p q : List AVal), p.map some = q.map some → p = q := fun p => by
   induction p with
   | nil => intro q h; cases q <;> simp_all
   | cons u p ih => intro q h; cases q with
    | nil => simp at h
    | cons v q => simp only [List.map_cons, List.cons.injEq, Option.some.injEq] at h; rw [h.1, ih q h.2]
  exact inj _ _ this
 have hv := cY hR hg args.toList
 rw [hl, h2] at hv
 refine ⟨?_, trivial⟩
 rw [← Array.toList_inj]
 simpa using aEe hv
set_option maxHeartbeats 1600000 in
theorem aBm (hR : Rep ρ F L s a w) (hg : Glo gl w F) {o : Oper} {v : AVal} (h : aopP P gl o.op s = some (true, v)) : ∃ val, Pu P o a val ∧ VR ρ w F (Bx F L) v val := by
 have E := fun x => kF hR hg x
 obtain ⟨dst, op, ty, pos, after, guard⟩ := o
 cases op <;> simp only [aopP] at h
 case move x => cases h; exact ⟨_, fun w1 => by simp [execOp], E x⟩
 case assign x => cases h; exact ⟨_, fun w1 => by simp [execOp], E x⟩
 case pick c x y =>
  have hc := E c
  have hx := E x
  have hy := E y
  split at h
  ·rename_i c' x' y' e1 e2 e3
   cases h
   rw [e1] at hc
   rw [e2] at hx
   rw [e3] at hy
   simp only [VR] at hc hx hy
   exact ⟨.bool (bif c' then x' else y'), fun w1 => (by simp [execOp, hc, hx, hy, asBool]; try (cases c' <;> rfl)), rfl⟩
  ·rename_i c' x' y' e1 e2 e3
   cases h
   rw [e1] at hc
   rw [e2] at hx
   rw [e3] at hy
   simp only [VR] at hc hx hy
   exact ⟨.int .i64 (bif c' then x' else y'), fun w1 => (by simp [execOp, hc, hx, hy, asBool]; try (cases c' <;> rfl)), rfl⟩
  ·have hc' : ∃ c', ev gl s c = .bool c' := ⟨_, by assumption⟩
   obtain ⟨c', e1⟩ := hc'
   rw [e1] at hc
   simp only [VR] at hc
   have hcc : ∀ c2, ev gl s c = .bool c2 → c2 = c' := fun c2 h2 => by rw [e1] at h2; cases h2; rfl
   rename_i c3 h3 _ _
   obtain rfl := hcc _ h3
   cases c3 with
   | true =>
    simp only [cond_true] at h
    cases h
    exact ⟨a.eval x, fun w1 => (by simp [execOp, hc, asBool]), hx⟩
   | false =>
    simp only [cond_false] at h
    cases h
    exact ⟨a.eval y, fun w1 => (by simp [execOp, hc, asBool]), hy⟩
  ·cases h
 case build t ps =>
  obtain ⟨v', h1, h2⟩ := Option.map_eq_some_iff.1 h
  cases h2
  have hv := cY hR hg (ps.toList.map (·.2))
  obtain ⟨val, h3, h4⟩ := aIy (pvs := ps.map fun (i, x) => (i, a.eval x)) (by simp [Function.comp_def]) (by simpa [Function.comp_def] using hv) h1
  exact ⟨val, Pu.of h3 rfl, h4⟩
 case nilCheck x =>
  have hx := E x
  generalize hval : a.eval x = val at hx
  split at h
  ·rename_i n off e1
   cases h
   rw [e1] at hx
   refine ⟨val, ?_, hx⟩
   simp only [VR] at hx
   obtain ⟨b, _, rfl⟩ := hx
   exact mY rfl hval (by simp) (by simp) (by simp) (by simp)
  ·rename_i n sz i off e1
   cases h
   rw [e1] at hx
   refine ⟨val, ?_, hx⟩
   simp only [VR] at hx
   obtain ⟨_, _, _, _, _, _, _, rfl⟩ := hx
   exact mY rfl hval (by simp) (by simp) (by simp) (by simp)
  ·rename_i q e x' off e1
   cases h
   rw [e1] at hx
   refine ⟨val, ?_, hx⟩
   simp only [VR] at hx
   obtain ⟨_, _, _, rfl, _⟩ := hx
   exact mY rfl hval (by simp) (by simp) (by simp) (by simp)
  ·rename_i f l e1
   cases h
   rw [e1] at hx
   refine ⟨val, ?_, hx⟩
   simp only [VR] at hx
   obtain ⟨_, ⟨rfl, _⟩, _⟩ := hx
   exact mY rfl hval (by simp) (by simp) (by simp) (by simp)
  ·cases h
 case binOp bo t x y ty' =>
  obtain ⟨val, h1, h2⟩ := aOk (ox := x) (oy := y) h (E x) (E y)
  exact ⟨val, Pu.of h1 rfl, h2⟩
 case unOp uo t x =>
  have hx := E x
  split at h
  ·rename_i b e1
   cases h
   rw [e1] at hx
   simp only [VR] at hx
   exact ⟨.bool (!b), fun w1 => by simp [execOp, hx, Op.unary], rfl⟩
  ·rename_i n e1
   cases h
   rw [e1] at hx
   simp only [VR] at hx
   exact ⟨.int .i64 (w64 (0 - n)), fun w1 => by simp [execOp, hx, Op.unary, Op.intArith, w64], rfl⟩
  ·cases h
 case convert t1 t2 x =>
  have hx := E x
  split at h
  ·rename_i n e1
   rw [e1] at hx
   simp only [VR] at hx
   split at h
   ·rename_i hc1
    split at h
    ·rename_i hc2
     cases h
     exact ⟨.int .i64 (w64 n), Pu.of (e := convert t1 t2 (.int .i64 n)) (fun w1 => by simp [convert, run_underlying (qK hc1), run_underlying (qK hc2), Conv.intToInt, w64]) (by simp [execOp, hx]), rfl⟩
    ·split at h
     ·rename_i hc2
      cases h
      exact ⟨.int .u64 (aC n), Pu.of (e := convert t1 t2 (.int .i64 n)) (fun w1 => by simp [convert, run_underlying (qK hc1), run_underlying (aUg hc2), Conv.intToInt, aC]) (by simp [execOp, hx]), rfl⟩
     ·cases h
   ·cases h
  ·rename_i n e1
   rw [e1] at hx
   simp only [VR] at hx
   split at h
   ·rename_i hc
    cases h
    simp only [Bool.and_eq_true] at hc
    exact ⟨.int .i64 (w64 n), Pu.of (e := convert t1 t2 (.int .u64 n)) (fun w1 => by simp [convert, run_underlying (aUg hc.1), run_underlying (qK hc.2), Conv.intToInt, w64]) (by simp [execOp, hx]), rfl⟩
   ·cases h
  ·cases h
 case makeInterface t x =>
  split at h
  ·rename_i fs hfs
   cases h
   exact ⟨.iface t (a.eval x), Pu.of (e := Instr.makeInterface t (a.eval x)) (fun w1 => by simp [Instr.makeInterface, run_underlying hfs]) rfl, ⟨_, rfl, E x⟩⟩
  ·cases h
 case makeFunc fn first cap =>
  split at h
  ·rename_i f
   split at h
   ·rename_i h0
    cases h
    have e1 : (f + 1000000 * first.size) % 1000000 = f := (Nat.add_mul_mod_self_left f 1000000 first.size).trans (Nat.mod_eq_of_lt h0)
    have e2 : (f + 1000000 * first.size) / 1000000 = first.size := (Nat.add_mul_div_left f first.size (by decide)).trans (by rw [Nat.div_eq_of_lt h0]; exact Nat.zero_add _)
    refine ⟨.func (.func f) (first.map a.eval) (cap.map a.eval), fun w1 => by simp [execOp, Instr.makeFunc], ⟨(first ++ cap).map a.eval, ⟨?_, ?_⟩, ?_⟩⟩
    ·rw [e1, e2]
     congr 1
     ·apply Array.ext'
      simp only [Array.toList_map, Array.toList_append, Array.toList_extract, List.extract_eq_take_drop, List.map_append, List.drop_zero, Nat.sub_zero]
      rw [List.take_append_of_le_length (by simp), List.take_of_length_le (by simp)]
     ·apply Array.ext'
      simp only [Array.toList_map, Array.toList_append, Array.toList_extract, List.extract_eq_take_drop, List.map_append]
      rw [List.drop_append_of_le_length (by simp), List.drop_of_length_le (by simp), List.nil_append, List.take_of_length_le (by simp)]
    ·rw [e2]
     simp
    ·simpa using cY hR hg (first.toList ++ cap.toList)
   ·cases h
  ·cases h
 case fieldAddr t x f =>
  obtain ⟨r, h1, h⟩ := Option.bind_eq_some_iff.1 h
  split at h
  ·cases h
  ·rename_i hz
   have hx := E x
   split at h
   ·rename_i n off e1
    cases h
    rw [e1] at hx
    simp only [VR] at hx
    obtain ⟨b, h2, h3⟩ := hx
    exact ⟨_, Pu.of (e := Instr.fieldAt t (.pointer (some ⟨b, off, none⟩)) f) (kH h1 hz b off) (by simp [execOp, h3]), ⟨b, h2, rfl⟩⟩
   ·rename_i n sz i off e1
    cases h
    rw [e1] at hx
    simp only [VR] at hx
    obtain ⟨b, o', len, cap, h2, h3, h4, h5⟩ := hx
    exact ⟨_, Pu.of (e := Instr.fieldAt t (.pointer (some ⟨b, o' + i.toNat * sz + off, none⟩)) f) (kH h1 hz b _) (by simp [execOp, h5]), ⟨b, o', len, cap, h2, h3, h4, by simp [Nat.add_assoc]⟩⟩
   ·rename_i q e x' off e1
    cases h
    rw [e1] at hx
    simp only [VR] at hx
    obtain ⟨b, o', row, h2, h3⟩ := hx
    exact ⟨_, Pu.of (e := Instr.fieldAt t (.pointer (some ⟨b, o' + off, none⟩)) f) (kH h1 hz b _) (by simp [execOp, h2]), ⟨b, o', row, by simp [Nat.add_assoc], h3⟩⟩
   ·rename_i n bb cnt sz i off e1
    cases h
    rw [e1] at hx
    simp only [VR] at hx
    obtain ⟨b, h2, h3, h4, h5⟩ := hx
    exact ⟨_, Pu.of (e := Instr.fieldAt t (.pointer (some ⟨b, bb + i.toNat * sz + off, none⟩)) f) (kH h1 hz b _) (by simp [execOp, h5]), ⟨b, h2, h3, h4, by simp [Nat.add_assoc]⟩⟩
   ·rename_i q e x' bb cnt sz i off e1
    cases h
    rw [e1] at hx
    simp only [VR] at hx
    obtain ⟨b, o', row, h2, h3⟩ := hx
    exact ⟨_, Pu.of (e := Instr.fieldAt t (.pointer (some ⟨b, o' + (bb + i.toNat * sz + off), none⟩)) f) (kH h1 hz b _) (by simp [execOp, h2]), ⟨b, o', row, by simp [Nat.add_assoc], h3⟩⟩
   ·cases h
 case field t x f =>
  have hx := E x
  split at h
  ·rename_i l e1
   rw [e1] at hx
   simp only [VR] at hx
   obtain ⟨cs, h2, h3⟩ := hx
   obtain ⟨r, h1, h⟩ := Option.bind_eq_some_iff.1 h
   obtain ⟨v', h4, h5⟩ := Option.map_eq_some_iff.1 h
   cases h5
   obtain ⟨fs, fd, f1, f2, rfl⟩ := wZ h1
   obtain ⟨val, h6, h7⟩ := aIx h4 h3
   exact ⟨val, Pu.of (e := Instr.field t (.agg cs) f) (fun w1 => by simp [Instr.field, run_underlying f1, f2, asAgg, h6 w1]) (by simp [execOp, h2]), h7⟩
  ·cases h
 case indexAddr t x i =>
  have hi := E i
  have hx := E x
  split at h
  ·rename_i n e1
   rw [e1] at hi
   simp only [VR] at hi
   split at h
   ·rename_i te hte
    replace hx := hx.unC
    split at h
    ·rename_i m e2
     rw [e2] at hx
     split at h
     ·rename_i k xs ho
      split at h
      ·rename_i hs
       obtain ⟨hr, rfl⟩ := Prod.mk.inj (Option.some.inj h)
       obtain ⟨h0, h1⟩ := pO hr
       simp only [VR] at hx
       obtain ⟨A, cap, q1, q2, q3, q4⟩ := oA hR ho
       obtain ⟨hx1, _⟩ := hx
       rw [q1] at hx1
       obtain ⟨x', rfl⟩ : ∃ x', A = some x' := by
        cases A with
        | none => have := (q3 rfl).1; subst this; simp at h1; omega
        | some x' => exact ⟨x', rfl⟩
       obtain ⟨b, rfl⟩ := q4 _ rfl
       refine ⟨_, Pu.of (e := Instr.indexAt t (.slice (some ⟨b, 0, none⟩) xs.length cap) (.int .i64 n)) (cG hte hs h0 h1) (by simp [execOp, hi, Option.some.inj hx1]), ⟨b, 0, xs.length, cap, q1, h0, h1, rfl⟩⟩
      ·cases h
     ·cases h
    ·rename_i m hi' e2
     rw [e2] at hx
     split at h
     ·rename_i k xs ho
      split at h
      ·rename_i hs
       obtain ⟨hr, rfl⟩ := Prod.mk.inj (Option.some.inj h)
       simp only [Bool.and_eq_true, decide_eq_true_eq] at hr
       simp only [VR] at hx
       obtain ⟨A, cap, q1, q2, q3, q4⟩ := oA hR ho
       obtain ⟨A', len', cap', hx1, hx2, hx3, hx4⟩ := hx
       rw [q1] at hx1
       cases hx1
       obtain ⟨x', rfl⟩ : ∃ x', A = some x' := by
        cases A with
        | none => have := (q3 rfl).1; subst this; simp at hx3; omega
        | some x' => exact ⟨x', rfl⟩
       obtain ⟨b, rfl⟩ := q4 _ rfl
       refine ⟨_, Pu.of (e := Instr.indexAt t (.slice (some ⟨b, 0, none⟩) hi'.toNat cap) (.int .i64 n)) (cG hte hs hr.1 (by omega)) (by simp [execOp, hi, hx4]), ⟨b, 0, xs.length, cap, q1, hr.1, by omega, rfl⟩⟩
      ·cases h
     ·cases h
    ·rename_i k xs e2
     rw [e2] at hx
     split at h
     ·rename_i hs
      obtain ⟨hr, rfl⟩ := Prod.mk.inj (Option.some.inj h)
      obtain ⟨b, o', cap, row, h2, h3, h4, h5⟩ := Rd.addr hx hr
      obtain ⟨h0, h1⟩ := pO hr
      exact ⟨_, Pu.of (e := Instr.indexAt t (.slice (some ⟨b, o', none⟩) xs.length cap) (.int .i64 n)) (cG hte hs h0 h1) (by simp [execOp, hi, h2]), ⟨b, _, row, rfl, h3, h4, h5⟩⟩
     ·cases h
    ·rename_i k xs e2
     rw [e2] at hx
     split at h
     ·rename_i hs
      obtain ⟨hr, rfl⟩ := Prod.mk.inj (Option.some.inj h)
      obtain ⟨b, o', cap, row, h2, h3, h4, h5⟩ := Rd.addr hx.1 hr
      obtain ⟨h0, h1⟩ := pO hr
      exact ⟨_, Pu.of (e := Instr.indexAt t (.slice (some ⟨b, o', none⟩) xs.length cap) (.int .i64 n)) (cG hte hs h0 h1) (by simp [execOp, hi, h2]), ⟨b, _, row, rfl, h3, h4, h5⟩⟩
     ·cases h
    ·rename_i k xs e2
     rw [e2] at hx
     split at h
     ·rename_i hs
      obtain ⟨hr, rfl⟩ := Prod.mk.inj (Option.some.inj h)
      obtain ⟨b, o', cap, row, h2, h3, h4, h5⟩ := Rd.addr hx hr
      obtain ⟨h0, h1⟩ := pO hr
      exact ⟨_, Pu.of (e := Instr.indexAt t (.slice (some ⟨b, o', none⟩) xs.length cap) (.int .i64 n)) (cG hte hs h0 h1) (by simp [execOp, hi, h2]), ⟨b, _, row, rfl, h3, h4, h5⟩⟩
     ·cases h
    ·rename_i m b0 cnt e2
     rw [e2] at hx
     simp only [VR] at hx
     obtain ⟨b, cap, h2, h3, h4⟩ := hx
     split at h
     ·rename_i hs
      obtain ⟨hr, rfl⟩ := Prod.mk.inj (Option.some.inj h)
      obtain ⟨h0, h1⟩ := pO hr
      exact ⟨_, Pu.of (e := Instr.indexAt t (.slice (some ⟨b, b0, none⟩) cnt cap) (.int .i64 n)) (cG hte hs h0 h1) (by simp [execOp, hi, h3]), ⟨b, h2, by simp⟩⟩
     ·cases h
    ·cases h
   ·rename_i len te hte
    obtain ⟨sz, hs, h⟩ := Option.bind_eq_some_iff.1 h
    split at h
    ·rename_i m off e2
     rw [e2] at hx
     simp only [VR] at hx
     obtain ⟨b, h2, h3⟩ := hx
     obtain ⟨hr, rfl⟩ := Prod.mk.inj (Option.some.inj h)
     obtain ⟨h0, h1⟩ := pO hr
     exact ⟨_, Pu.of (e := Instr.indexAt t (.pointer (some ⟨b, off, none⟩)) (.int .i64 n)) (nO hte hs h0 h1) (by simp [execOp, hi, h3]), ⟨b, h2, h0, h1, by simp⟩⟩
    ·rename_i q k x' off e2
     rw [e2] at hx
     simp only [VR] at hx
     obtain ⟨b, o', row, h2, h3⟩ := hx
     obtain ⟨hr, rfl⟩ := Prod.mk.inj (Option.some.inj h)
     obtain ⟨h0, h1⟩ := pO hr
     exact ⟨_, Pu.of (e := Instr.indexAt t (.pointer (some ⟨b, o' + off, none⟩)) (.int .i64 n)) (nO hte hs h0 h1) (by simp [execOp, hi, h2]), ⟨b, o', row, by simp [Nat.add_assoc], h0, h1, h3⟩⟩
    ·cases h
   ·cases h
  ·cases h
 case index t x i =>
  have hi := E i
  have hx := E x
  split at h
  ·rename_i n e1
   rw [e1] at hi
   simp only [VR] at hi
   split at h
   ·rename_i len te l hte e2
    rw [e2] at hx
    simp only [VR] at hx
    obtain ⟨cs, h2, h3⟩ := hx
    obtain ⟨sz, hs, h⟩ := Option.bind_eq_some_iff.1 h
    obtain ⟨v', h4, h5⟩ := Option.map_eq_some_iff.1 h
    obtain ⟨hr, rfl⟩ := Prod.mk.inj h5
    obtain ⟨h0, h1⟩ := pO hr
    obtain ⟨val, h6, h7⟩ := aJa h4 h0 h1 h3
    exact ⟨val, Pu.of (e := Instr.index t (.agg cs) (.int .i64 n)) (fun w1 => by simp [Instr.index, run_underlying hte, asIntOf, h0, h1, gO hs, h6 w1]) (by simp [execOp, hi, h2]), h7⟩
   ·cases h
  ·cases h
 case slice t x lo hi mx =>
  have hx := E x
  split at h
  ·rename_i te hte
   split at h
   ·rename_i e xs h' e1 e2 e3
    rw [e1] at hx
    simp only [Option.map_eq_none_iff, Option.map_eq_some_iff] at e2 e3
    obtain ⟨hi', rfl, e3⟩ := e3
    subst e2
    have hh := E hi'
    rw [e3] at hh
    simp only [VR] at hh
    split at h
    ·rename_i hs
     obtain ⟨hr, rfl⟩ := Prod.mk.inj (Option.some.inj h)
     simp only [Bool.and_eq_true, decide_eq_true_eq] at hr
     obtain ⟨A, cap, h2, h3⟩ := Rd.slice hx
     obtain ⟨i', hi1, _⟩ := nM hs
     refine ⟨_, Pu.of (e := Instr.sliceAt t (.slice A xs.length cap) none (some (.int .i64 h')) none) (mZ hte (by rw [hi1]; rfl) hr.1 (by omega)) (by simp [execOp, h2, hh]), ?_⟩
     simp only [VR]
     rw [h2] at hx
     exact Rd.take hx h'.toNat (by omega)
    ·cases h
   ·rename_i e xs h' e1 e2 e3
    rw [e1] at hx
    simp only [Option.map_eq_none_iff, Option.map_eq_some_iff] at e2 e3
    obtain ⟨lo', rfl, e2⟩ := e2
    subst e3
    have hh := E lo'
    rw [e2] at hh
    simp only [VR] at hh
    split at h
    ·rename_i hs
     obtain ⟨hr, rfl⟩ := Prod.mk.inj (Option.some.inj h)
     simp only [Bool.and_eq_true, decide_eq_true_eq] at hr
     obtain ⟨A, cap, h2, h3⟩ := Rd.slice hx
     refine ⟨_, Pu.of (e := Instr.sliceAt t (.slice A xs.length cap) (some (.int .i64 h')) none none) (pP hte hs hr.1 hr.2) (by simp [execOp, h2, hh]), ?_⟩
     simp only [VR]
     rw [h2] at hx
     exact Rd.drop hx h'.toNat (by omega)
    ·cases h
   ·rename_i e xs h' e1 e2 e3
    rw [e1] at hx
    simp only [Option.map_eq_none_iff, Option.map_eq_some_iff] at e2 e3
    obtain ⟨hi', rfl, e3⟩ := e3
    subst e2
    have hh := E hi'
    rw [e3] at hh
    simp only [VR] at hh
    split at h
    ·rename_i hs
     obtain ⟨hr, rfl⟩ := Prod.mk.inj (Option.some.inj h)
     simp only [Bool.and_eq_true, decide_eq_true_eq] at hr
     obtain ⟨A, cap, h2, h3⟩ := Rd.slice hx
     obtain ⟨i', hi1, _⟩ := nM hs
     refine ⟨_, Pu.of (e := Instr.sliceAt t (.slice A xs.length cap) none (some (.int .i64 h')) none) (mZ hte (by rw [hi1]; rfl) hr.1 (by omega)) (by simp [execOp, h2, hh]), ?_⟩
     simp only [VR]
     rw [h2] at hx
     exact Rd.take hx h'.toNat (by omega)
    ·cases h
   ·rename_i e xs h' e1 e2 e3
    rw [e1] at hx
    simp only [Option.map_eq_none_iff, Option.map_eq_some_iff] at e2 e3
    obtain ⟨lo', rfl, e2⟩ := e2
    subst e3
    have hh := E lo'
    rw [e2] at hh
    simp only [VR] at hh
    split at h
    ·rename_i hs
     obtain ⟨hr, rfl⟩ := Prod.mk.inj (Option.some.inj h)
     simp only [Bool.and_eq_true, decide_eq_true_eq] at hr
     obtain ⟨A, cap, h2, h3⟩ := Rd.slice hx
     refine ⟨_, Pu.of (e := Instr.sliceAt t (.slice A xs.length cap) (some (.int .i64 h')) none none) (pP hte hs hr.1 hr.2) (by simp [execOp, h2, hh]), ?_⟩
     simp only [VR]
     rw [h2] at hx
     exact Rd.drop hx h'.toNat (by omega)
    ·cases h
   ·rename_i v' h' e1 e2 e3
    rw [e1] at hx
    simp only [Option.map_eq_none_iff, Option.map_eq_some_iff] at e2 e3
    obtain ⟨hi', rfl, e3⟩ := e3
    subst e2
    have hh := E hi'
    rw [e3] at hh
    simp only [VR] at hh hx
    split at h
    ·rename_i hn
     rw [Bool.and_eq_true] at hn
     obtain ⟨hr, rfl⟩ := Prod.mk.inj (Option.some.inj h)
     have h0 : h' = 0 := of_decide_eq_true hr
     subst h0
     rw [cH hn.1] at hx ⊢
     exact ⟨_, Pu.of (e := Instr.sliceAt t (.slice none 0 0) none (some (.int .i64 0)) none) (mZ hte hn.2 (Int.le_refl _) (Int.le_refl _)) (by simp [execOp, hx, hh]), rfl⟩
    ·cases h
   ·rename_i n h' e1 e2 e3
    rw [e1] at hx
    simp only [Option.map_eq_none_iff, Option.map_eq_some_iff] at e2 e3
    obtain ⟨hi', rfl, e3⟩ := e3
    subst e2
    have hh := E hi'
    rw [e3] at hh
    simp only [VR] at hh
    split at h
    ·rename_i e xs ho
     split at h
     ·rename_i hs
      obtain ⟨hr, rfl⟩ := Prod.mk.inj (Option.some.inj h)
      simp only [Bool.and_eq_true, decide_eq_true_eq] at hr
      obtain ⟨i', hi1, _⟩ := nM hs
      obtain ⟨A, cap, q1, q2, _⟩ := oA hR ho
      simp only [VR] at hx
      have hx1 := hx.1
      rw [q1] at hx1
      have hxe := (Option.some.inj hx1).symm
      exact ⟨_, Pu.of (e := Instr.sliceAt t (.slice A xs.length cap) none (some (.int .i64 h')) none) (mZ hte (by rw [hi1]; rfl) hr.1 (by omega)) (by simp [execOp, hxe, hh]), ⟨A, xs.length, cap, q1, hr.1, hr.2, rfl⟩⟩
     ·cases h
    ·cases h
   ·rename_i n h' e1 e2 e3
    rw [e1] at hx
    simp only [Option.map_eq_none_iff, Option.map_eq_some_iff] at e2 e3
    obtain ⟨lo', rfl, e2⟩ := e2
    subst e3
    have hh := E lo'
    rw [e2] at hh
    simp only [VR] at hh
    split at h
    ·rename_i e xs ho
     split at h
     ·rename_i hs
      obtain ⟨hr, rfl⟩ := Prod.mk.inj (Option.some.inj h)
      simp only [Bool.and_eq_true, decide_eq_true_eq] at hr
      obtain ⟨A, cap, q1, q2, q3, q4⟩ := oA hR ho
      simp only [VR] at hx
      have hx1 := hx.1
      rw [q1] at hx1
      have hxe := (Option.some.inj hx1).symm
      refine ⟨_, Pu.of (e := Instr.sliceAt t (.slice A xs.length cap) (some (.int .i64 h')) none none) (pP hte hs hr.1 hr.2) (by simp [execOp, hxe, hh]), ⟨A, xs.length, cap, q1, hr.1, hr.2, Int.le_refl _, ?_⟩⟩
      cases A with
      | none =>
       obtain ⟨rfl, rfl⟩ := q3 rfl
       exact .inl ⟨rfl, rfl, by simp⟩
      | some x' =>
       obtain ⟨b, rfl⟩ := q4 _ rfl
       have e1 : ((xs.length : Int) - h').toNat = xs.length - h'.toNat := by omega
       refine .inr ⟨b, if cap = h'.toNat then 0 else h'.toNat * e.sz, cap - h'.toNat, rfl, ?_, by omega, fun hlt => by rw [if_neg (by omega)]⟩
       rw [e1]
       split <;> simp [Addr.add_lit]
     ·cases h
    ·cases h
   ·cases h
  ·rename_i len te hte
   split at h
   ·rename_i n off e1
    split at h
    ·cases h
    ·rename_i hz
     cases h
     rw [e1] at hx
     simp only [VR] at hx
     obtain ⟨b, h2, h3⟩ := hx
     cases hs : szT P te with
     | none => exact absurd (.inr (.inl hs)) hz
     | some sz =>
      have hl : len ≠ 0 := fun e => hz (.inr (.inr e))
      exact ⟨_, Pu.of (e := Instr.sliceAt t (.pointer (some ⟨b, off, none⟩)) none none none) (fun w1 => by simp [Instr.sliceAt, run_underlying hte, Instr.sureAddr, Instr.sliceBounds, gO hs, hl, Addr.add_lit]; try rfl) (by simp [execOp, h3]), ⟨b, len, h2, rfl, Nat.le_refl _⟩⟩
   ·cases h
  ·cases h
 case extract x i =>
  have hx := E x
  split at h
  ·rename_i l e1
   rw [e1] at hx
   simp only [VR] at hx
   obtain ⟨cs, h2, h3⟩ := hx
   obtain ⟨v', h4, h5⟩ := Option.map_eq_some_iff.1 h
   cases h5
   obtain ⟨u, hu, r⟩ := h3.at h4
   have hu' : cs[i]? = some u := by simpa using hu
   exact ⟨u, Pu.of (e := Instr.extract (.tuple cs) i) (fun w1 => by simp [Instr.extract, hu']) (by simp [execOp, h2]), r⟩
  ·cases h
 case typeAssert x xt t q =>
  have hx := E x
  split at h
  ·rename_i u v' fs e1 e2
   split at h
   ·rename_i hu
    cases h
    rw [e1] at hx
    simp only [VR] at hx
    obtain ⟨z, h2, h3⟩ := hx
    subst hu
    exact ⟨.tuple #[z, .bool true], Pu.of (e := Instr.typeAssert (.iface u z) xt u true) (fun w1 => by simp [Instr.typeAssert, run_underlying e2]) (by simp [execOp, h2]), ⟨_, rfl, by simp only [VRs, VR, and_true]; exact h3⟩⟩
   ·cases h
  ·cases h
 case call c =>
  split at h
  ·rename_i bi hb
   split at h
   ·rename_i x hargs
    have hv := cY hR hg c.args.toList
    rw [hargs] at hv
    obtain ⟨u, hu⟩ : ∃ u, c.args.toList.map a.eval = [u] := by
     have := hv.length
     generalize c.args.toList.map a.eval = vs at this
     match vs, this with
     | [u], _ => exact ⟨u, rfl⟩
    rw [hu] at hv
    simp only [VRs, and_true] at hv
    replace hv := hv.unC
    generalize x.unC = x0 at h hv
    have hu' : c.args.map a.eval = #[u] := by
     rw [← Array.toList_inj]
     simpa using hu
    have fin : ∀ (n : Int), (∀ w1, (Builtin.len_ c.argTypes ty #[u]).run P w1 = .ok (.int .i64 n) w1) → Pu P { dst := dst, op := .call c, type := ty, pos := pos, after := after, guard := guard } a (.int .i64 n) := fun n hn w1 => by
     unfold execOp
     simp only [Sem.run_bind]
     unfold resolve
     simp [hb, hu', invoke, builtin, hn w1]
    split at h
    ·rename_i te hte
     obtain ⟨t0, h1, h2⟩ := Option.bind_eq_some_iff.1 hte
     have lens : ∀ A n cap, u = .slice A n cap → ∀ w1, (Builtin.len_ c.argTypes ty #[u]).run P w1 = .ok (.int .i64 n) w1 := fun A n cap hs w1 => by
      subst hs
      simp [Builtin.len_, h1, run_underlying h2, goInt]
     split at h
     ·rename_i k xs
      cases h
      obtain ⟨A, cap, hs, _⟩ := Rd.slice hv
      exact ⟨_, fin _ (lens A xs.length cap hs), rfl⟩
     ·rename_i k xs
      cases h
      obtain ⟨A, cap, hs, _⟩ := Rd.slice hv.1
      exact ⟨_, fin _ (lens A xs.length cap hs), rfl⟩
     ·rename_i k xs
      cases h
      obtain ⟨A, cap, hs, _⟩ := Rd.slice hv
      exact ⟨_, fin _ (lens A xs.length cap hs), rfl⟩
     ·rename_i c'
      split at h
      ·rename_i hn
       cases h
       simp only [VR] at hv
       exact ⟨_, fin 0 (lens none 0 0 (by rw [hv]; exact cH hn)), rfl⟩
      ·cases h
     ·rename_i n
      split at h
      ·rename_i k xs ho
       cases h
       obtain ⟨A, cap, q1, _⟩ := oA hR ho
       simp only [VR] at hv
       have hv1 := hv.1
       rw [q1] at hv1
       exact ⟨_, fin _ (lens A xs.length cap (Option.some.inj hv1).symm), rfl⟩
      ·cases h
     ·rename_i n hi
      cases h
      simp only [VR] at hv
      obtain ⟨A, len, cap, q1, q2, q3, q4⟩ := hv
      refine ⟨_, fin hi (fun w1 =>?_), rfl⟩
      rw [lens A _ cap q4 w1]
      congr 2
      omega
     ·rename_i n sz lo hi
      cases h
      simp only [VR] at hv
      obtain ⟨A, len, cap, q1, q2, q3, q4, q5⟩ := hv
      refine ⟨_, fin (hi - lo) (fun w1 =>?_), rfl⟩
      rcases q5 with ⟨_, q6, q7⟩ | ⟨b, o', cap', _, q7, _⟩
      ·rw [lens none _ 0 q7 w1]
       congr 2
       omega
      ·rw [lens _ _ cap' q7 w1]
       congr 2
       omega
     ·rename_i n b cnt
      cases h
      simp only [VR] at hv
      obtain ⟨b', cap, q1, q2, _⟩ := hv
      exact ⟨_, fin _ (lens _ cnt cap q2), rfl⟩
     ·cases h
    ·rename_i n te hte
     obtain ⟨t0, h1, h2⟩ := Option.bind_eq_some_iff.1 hte
     cases h
     refine ⟨_, fin _ (fun w1 => by simp [Builtin.len_, h1, run_underlying h2, goInt]), rfl⟩
    ·cases h
   ·rename_i v' hargs
    have hv := cY hR hg c.args.toList
    rw [hargs] at hv
    obtain ⟨u, hu⟩ : ∃ u, c.args.toList.map a.eval = [u] := by
     have := hv.length
     generalize c.args.toList.map a.eval = vs at this
     match vs, this with
     | [u], _ => exact ⟨u, rfl⟩
    rw [hu] at hv
    simp only [VRs, VR, and_true] at hv
    have hu' : c.args.map a.eval = #[u] := by
     rw [← Array.toList_inj]
     simpa using hu
    split at h
    ·rename_i te hte
     obtain ⟨t0, h1, h2⟩ := Option.bind_eq_some_iff.1 hte
     split at h
     ·rename_i hn
      cases h
      rw [cH hn] at hv
      refine ⟨.int .i64 0, fun w1 =>?_, rfl⟩
      unfold execOp
      simp only [Sem.run_bind]
      unfold resolve
      simp [hb, hu', invoke, builtin, Builtin.cap_, h1, run_underlying h2, goInt, hv]
     ·cases h
    ·cases h
   ·obtain ⟨xs, h1, h⟩ := Option.bind_eq_some_iff.1 h
    split at h
    ·cases h
    ·rename_i x xs
     cases h
     obtain ⟨hu, hrest⟩ := aJb hR hg rfl h1
     refine ⟨.int .i64 (xs.foldl min x), fun w1 =>?_, rfl⟩
     unfold execOp
     simp only [Sem.run_bind]
     unfold resolve
     simp [hb, hu, invoke, builtin, Builtin.min_, sK]
   ·obtain ⟨xs, h1, h⟩ := Option.bind_eq_some_iff.1 h
    split at h
    ·cases h
    ·rename_i x xs
     cases h
     obtain ⟨hu, hrest⟩ := aJb hR hg rfl h1
     refine ⟨.int .i64 (xs.foldl max x), fun w1 =>?_, rfl⟩
     unfold execOp
     simp only [Sem.run_bind]
     unfold resolve
     simp [hb, hu, invoke, builtin, Builtin.max_, sL]
   ·cases h
  ·cases h
 all_goals cases h
end
section
variable {P : Program} {gl : Glb} {ρ : List Value} {F L B : Nat → Prop} {s : St} {a : Act} {w : World}
theorem aEf {e : EK} {xs : List e.T} {base : Value} (h : OR ρ w F B base (.arr e xs)) {i : Int} (h0 : 0 ≤ i) (h1 : i < (xs.length : Int)) : ∃ b cap row, base = .slice (some ⟨b, 0, none⟩) xs.length cap ∧ Rd w F e (rd xs i) row ∧ ∀ (j : Nat) (u : Value), row[j]? = some u → w.cell? ⟨b, i.toNat * e.sz + j, none⟩ = some u := by
 rcases h with ⟨_, rfl⟩ | ⟨b, cap, cs, ty, rows, rfl, h2, h3, h4, h5, h6⟩
 ·simp at h1; omega
 ·have hi : inR i xs.length = true := by simp [inR, h0, h1]
  obtain ⟨k1, k2, _⟩ := rd_at hi
  refine ⟨b, cap, rows i.toNat, rfl, by rw [k2]; exact h5 i.toNat k1, fun j u hu =>?_⟩
  have := h6 i.toNat j u k1 hu
  simpa [World.cell?, h2] using this
theorem vN (hR : Rep ρ F L s a w) {t : TypeId} {av v : AVal} {p : Value} (h : ldA P s t av = some v) (hp : VR ρ w F (Bx F L) av p) :
  ∃ val b, (∀ w1 : World, w1.heap[b]? = w.heap[b]? → (Instr.loadAt t p).run P w1 = .ok val w1) ∧ VR ρ w F (Bx F L) v val ∧ ((∃ n x, av.nm = some n ∧ ρ[n]? = some x ∧ blk x = some b ∧ b < w.heap.size) ∨ (av.nm = none ∧ Bx F L b)) := by
 have cell : ∀ (w1 : World) (b o : Nat), w1.heap[b]? = w.heap[b]? → w1.cell? ⟨b, o, none⟩ = w.cell? ⟨b, o, none⟩ := fun w1 b o hb => bK hb
 unfold ldA at h
 split at h
 ·rename_i n off
  split at h
  ·rename_i l ho
   simp only [VR] at hp
   obtain ⟨b, h1, rfl⟩ := hp
   obtain ⟨v', h2, h3⟩ := hR.h.at ho
   rw [h1] at h2
   cases h2
   obtain ⟨b', cs, ty, hb', h4, h5⟩ := h3
   cases hb'
   obtain ⟨val, h6, h7⟩ := nY (b := b) (o := 0) h h5
   refine ⟨val, b, fun w1 hw =>?_, h7, .inl ⟨n, _, rfl, h1, rfl, (Array.getElem?_eq_some_iff.1 h4).1⟩⟩
   have := h6 w1 (fun j u hu => by rw [cell w1 b _ hw]; simpa [World.cell?, h4] using hu)
   simpa using this
  ·cases h
 ·rename_i n sz i off
  split at h
  ·rename_i e xs ho
   split at h
   ·rename_i hsz
    subst hsz
    simp only [VR] at hp
    obtain ⟨b, o, len, cap, h1, h0, hi, rfl⟩ := hp
    obtain ⟨v', h2, h3⟩ := hR.h.at ho
    rw [h1] at h2
    cases h2
    have hlen : len = xs.length := by
     rcases h3 with ⟨hh, _⟩ | ⟨_, _, _, _, _, hh, _⟩ <;> simp_all
    subst hlen
    have hlt : b < w.heap.size := by
     rcases h3 with ⟨hh, _⟩ | ⟨_, _, _, _, _, hh, h2, _⟩
     ·cases hh
     ·cases hh; exact (Array.getElem?_eq_some_iff.1 h2).1
    obtain ⟨b', cap', row, hb', h4, h5⟩ := aEf h3 h0 hi
    cases hb'
    obtain ⟨val, h6, h7⟩ := nY (b := b) (o := i.toNat * e.sz) h (lU h4)
    refine ⟨val, b, fun w1 hw =>?_, h7, .inl ⟨n, _, rfl, h1, rfl, hlt⟩⟩
    have := h6 w1 (fun j u hu => by rw [cell w1 b _ hw]; exact h5 j u hu)
    simpa using this
   ·cases h
  ·cases h
 ·rename_i q e x off
  simp only [VR] at hp
  obtain ⟨b, o, row, rfl, h1, h2, h3⟩ := hp
  cases q with
  | true =>
   simp only [if_true] at h h1 h2
   obtain ⟨val, h6, h7⟩ := nY (b := b) (o := o) h (aIw h2)
   exact ⟨val, b, fun w1 hw => h6 w1 (fun j u hu => by rw [cell w1 b _ hw]; exact h3 j u hu), h7, .inr ⟨rfl, h1⟩⟩
  | false =>
   simp only [Bool.false_eq_true, if_false] at h h1 h2
   obtain ⟨val, h6, h7⟩ := nY (b := b) (o := o) h (lU h2)
   exact ⟨val, b, fun w1 hw => h6 w1 (fun j u hu => by rw [cell w1 b _ hw]; exact h3 j u hu), h7, .inr ⟨rfl, .inl h1⟩⟩
 ·rename_i n bb cnt sz i off
  split at h
  ·rename_i l ho
   simp only [VR] at hp
   obtain ⟨b, h1, h0, hi, rfl⟩ := hp
   obtain ⟨v', h2, h3⟩ := hR.h.at ho
   rw [h1] at h2
   cases h2
   obtain ⟨b', cs, ty, hb', h4, h5⟩ := h3
   cases hb'
   obtain ⟨val, h6, h7⟩ := pN (b := b) (o := 0) h h0 hi h5
   refine ⟨val, b, fun w1 hw =>?_, h7, .inl ⟨n, _, rfl, h1, rfl, (Array.getElem?_eq_some_iff.1 h4).1⟩⟩
   have := h6 w1 (fun j u hu => by rw [cell w1 b _ hw]; simpa [World.cell?, h4] using hu)
   simpa using this
  ·cases h
 ·rename_i q e x bb cnt sz i off
  simp only [VR] at hp
  obtain ⟨b, o, row, rfl, h0, hi, h1, h2, h3⟩ := hp
  cases q with
  | true =>
   simp only [if_true] at h h1 h2
   obtain ⟨val, h6, h7⟩ := pN (b := b) (o := o) h h0 hi (aIw h2)
   exact ⟨val, b, fun w1 hw => h6 w1 (fun j u hu => by rw [cell w1 b _ hw]; exact h3 j u hu), h7, .inr ⟨rfl, h1⟩⟩
  | false =>
   simp only [Bool.false_eq_true, if_false] at h h1 h2
   obtain ⟨val, h6, h7⟩ := pN (b := b) (o := o) h h0 hi (lU h2)
   exact ⟨val, b, fun w1 hw => h6 w1 (fun j u hu => by rw [cell w1 b _ hw]; exact h3 j u hu), h7, .inr ⟨rfl, .inl h1⟩⟩
 ·cases h

theorem OR.mp {ρ' : List Value} {w' : World} {F' B' : Nat → Prop} {f : AVal → AVal} {v : Value} {o : AObj} (h : OR ρ w F B v o) (hf : ∀ v x, v.isLeaf = true → VR ρ w F B v x → VR ρ' w' F' B' (f v) x) (hF : ∀ b, F b → w'.heap[b]? = w.heap[b]?) (hFF : ∀ b, F b → F' b)
  (hb : ∀ b, blk v = some b → w'.heap[b]? = w.heap[b]?) : OR ρ' w' F' B' v (o.mp f) := by
 cases o with
 | box l =>
  obtain ⟨b, cs, ty, rfl, h2, h3⟩ := h
  exact ⟨b, cs, ty, rfl, by rw [hb b rfl]; exact h2, (VR.mp hf).2 _ _ h3⟩
 | arr e xs =>
  rcases h with h | ⟨b, cap, cs, ty, rows, rfl, h2, h3, h4, h5, h6⟩
  ·exact .inl h
  ·exact .inr ⟨b, cap, cs, ty, rows, rfl, by rw [hb b rfl]; exact h2, h3, h4, fun i hi => (h5 i hi).mono hF hFF, h6⟩
 | dead => trivial
theorem AObj.mp_live (f : AVal → AVal) (o : AObj) : (o.mp f).live = o.live := by cases o <;> rfl
theorem bMo {e : EK} {xs : List e.T} {base : Value} (hor : OR ρ w F B base (.arr e xs)) : Rd w (fun b => F b ∨ blk base = some b) (.sl e) xs [base] := by
 rcases hor with ⟨rfl, rfl⟩ | ⟨b, cap, cs, ty, rows, rfl, h2, h3, h4, h5, h6⟩
 ·exact .nil e
 ·refine .sl e xs b 0 cap rows (.inr rfl) h3 (fun i hi => (h5 i hi).mono (fun _ _ => rfl) (fun _ h => .inl h)) (fun i hi => (h5 i hi).len) (fun i j v hi hj =>?_)
  have := h6 i j v hi hj
  simpa [World.cell?, h2] using this
theorem aJc {n : Nat} {e : EK} {xs : List e.T} {base : Value} (hb : ρ[n]? = some base) (hor : OR ρ w F (Bx F L) base (.arr e xs)) :
  ∀ v x, v.isLeaf = true → VR ρ w F (Bx F L) v x → VR ρ w (fun b => F b ∨ blk base = some b) (Bx (fun b => F b ∨ blk base = some b) L) (frzV n e xs v) x := by
 have hFF : ∀ b, F b → (F b ∨ blk base = some b) := fun b h => .inl h
 have hBB : ∀ b, Bx F L b → Bx (fun b => F b ∨ blk base = some b) L b := fun b h => h.imp (hFF b) id
 have hrd := bMo hor
 generalize hF' : (fun b => F b ∨ blk base = some b) = F' at hrd hBB ⊢
 clear hFF
 have hFF : ∀ b, F b → F' b := fun b h => by subst hF'; exact .inl h
 have hFi : ∀ b, blk base = some b → F' b := fun b h => by subst hF'; exact .inr h
 intro v x hv hx
 have hm : VR ρ w F' (Bx F' L) v x := (VR.mono (fun _ _ h => h) (fun _ _ => rfl) (fun _ _ => rfl) hFF hBB).1 v x hx
 unfold frzV
 split
 ·rename_i m
  split
  ·rename_i hmn
   subst hmn
   simp only [VR] at hx ⊢
   obtain ⟨h1, _⟩ := hx
   rw [hb] at h1
   cases h1
   exact hrd
  ·exact hm
 ·rename_i m c0
  split
  ·rename_i hmn
   subst hmn
   simp only [VR] at hx ⊢
   obtain ⟨h1, _⟩ := hx
   rw [hb] at h1
   cases h1
   exact hrd
  ·exact hm
 ·rename_i m hi
  split
  ·rename_i hmn
   subst hmn
   simp only [VR] at hx ⊢
   obtain ⟨A, len, cap, h1, h2, h3, rfl⟩ := hx
   rw [hb] at h1
   cases h1
   obtain ⟨A', cap', h4, h5⟩ := Rd.slice hrd
   cases h4
   exact Rd.take hrd hi.toNat (by omega)
  ·exact hm
 ·rename_i m sz lo hi
  split
  ·rename_i hmn
   subst hmn
   split
   ·rename_i hsz
    subst hsz
    simp only [VR] at hx ⊢
    obtain ⟨A, len, cap, h1, h2, h3, h4, h5⟩ := hx
    rw [hb] at h1
    cases h1
    have hl : ((xs.take hi.toNat).drop lo.toNat).length = (hi - lo).toNat := by
     obtain ⟨A2, cap2, h7, h8⟩ := Rd.slice hrd
     cases h7
     simp
     omega
    rcases h5 with ⟨_, q1, rfl⟩ | ⟨b, o, cap', rfl, rfl, q2, q3⟩
    ·have : (xs.take hi.toNat).drop lo.toNat = [] := List.eq_nil_of_length_eq_zero (by omega)
     rw [this]
     exact .nil e
    ·by_cases c : lo < hi
     ·have h9 := Rd.drop (Rd.take hrd hi.toNat (by have := hl; simp at this; omega)) lo.toNat (by simp; simp at hl; omega)
      obtain ⟨A2, cap2, h7, h8⟩ := Rd.slice hrd
      cases h7
      rw [if_neg (by omega)] at h9
      simp only [Option.map_some, Addr.add_lit, Nat.zero_add] at h9
      rw [q3 c]
      generalize hys : (xs.take hi.toNat).drop lo.toNat = ys at h9 hl
      obtain ⟨vv, hvv, h9⟩ : ∃ vv, Value.slice (some ⟨b, lo.toNat * e.sz, none⟩) (hi.toNat - lo.toNat) (cap - lo.toNat) = vv ∧ Rd w F' (.sl e) ys [vv] := ⟨_, rfl, h9⟩
      cases h9 with
      | nil e => exfalso; simp at hl; omega
      | sl e ys b o cap rows hF hc hr hz hw =>
       simp only [Value.slice.injEq, Option.some.injEq, Addr.mk.injEq, and_true] at hvv
       obtain ⟨⟨rfl, rfl⟩, _⟩ := hvv
       have := Rd.sl (w := w) (F := F') e ys _ _ cap' rows hF (by omega) hr hz hw
       rwa [hl] at this
     ·have : (xs.take hi.toNat).drop lo.toNat = [] := List.eq_nil_of_length_eq_zero (by omega)
      rw [this]
      have h0 : (hi - lo).toNat = 0 := by omega
      rw [h0]
      exact Rd.sl (w := w) (F := F') e [] b o cap' (fun _ => []) (hFi _ rfl) (by simp) (fun i hi => by simp at hi) (fun i hi => by simp at hi) (fun i j v hi => by simp at hi)
   ·simp [VR]
  ·exact hm
 ·rename_i m sz i off
  split
  ·rename_i hmn
   subst hmn
   split
   ·rename_i hsz
    subst hsz
    simp only [VR] at hx ⊢
    obtain ⟨b, o, len, cap, h1, h2, h3, rfl⟩ := hx
    rw [hb] at h1
    cases h1
    have hlen : len = xs.length := by
     rcases hor with ⟨hh, _⟩ | ⟨_, _, _, _, _, hh, _⟩ <;> simp_all
    subst hlen
    obtain ⟨b', cap', row, h4, h5, h6⟩ := aEf hor h2 h3
    cases h4
    exact ⟨b, i.toNat * e.sz, row, by simp, by simp only [Bool.false_eq_true, if_false]; exact hFi _ rfl, by simp only [Bool.false_eq_true, if_false]; exact h5.mono (fun _ _ => rfl) hFF, h6⟩
   ·simp [VR]
  ·exact hm
 ·exact hm
theorem aWq (hR : Rep ρ F L s a w) {n : Nat} {e : EK} {xs : List e.T} (ho : s.hp[n]? = some (.arr e xs)) :
  ∃ F', Rep ρ F' L (frz n s) a w ∧ Stp w (Own ρ s.hp) F w (Own ρ (frz n s).hp) F' ∧ (∀ v x, VR ρ w F (Bx F L) v x → VR ρ w F' (Bx F' L) (v.mp (frzV n e xs)) x) := by
 obtain ⟨base, hb, hor⟩ := hR.h.at ho
 let F' : Nat → Prop := fun b => F b ∨ blk base = some b
 have hFF : ∀ b, F b → F' b := fun b h => .inl h
 have hBB : ∀ b, Bx F L b → Bx F' L b := fun b h => h.imp (hFF b) id
 have leaf : ∀ v x, v.isLeaf = true → VR ρ w F (Bx F L) v x → VR ρ w F' (Bx F' L) (frzV n e xs v) x := aJc hb hor
 have hm := VR.mp leaf
 have hlive : ∀ {m : Nat} {x : AObj}, (frz n s).hp[m]? = some x → x.live = true → ∃ y, s.hp[m]? = some y ∧ y.live = true ∧ m ≠ n ∧ x = y.mp (frzV n e xs) := by
  intro m x hx hl
  simp only [frz, ho, St.mp, List.getElem?_set, List.getElem?_map] at hx
  split at hx
  ·split at hx
   ·cases hx; simp [AObj.live] at hl
   ·cases hx
  ·rename_i hne
   obtain ⟨y, hy, rfl⟩ := Option.map_eq_some_iff.1 hx
   rw [AObj.mp_live] at hl
   exact ⟨y, hy, hl, fun e => hne e.symm, rfl⟩
 have hown : ∀ b, Own ρ (frz n s).hp b → Own ρ s.hp b ∧ blk base ≠ some b := fun b ⟨m, x, u, h1, h2, h3, h4⟩ => by
  obtain ⟨y, k1, k2, k3, _⟩ := hlive h1 h2
  refine ⟨⟨m, y, u, k1, k2, h3, h4⟩, fun hbb => k3 ?_⟩
  exact hR.h.dist m n y _ u base b k1 ho k2 rfl h3 hb h4 hbb
 have hFo : ∀ b, F' b → F b ∨ Own ρ s.hp b := fun b h => h.imp id (fun hbb => ⟨n, _, base, ho, rfl, hb, hbb⟩)
 refine ⟨F', ⟨by simpa only [frz, ho, St.mp] using hm.2 _ _ hR.tm, ⟨by simp [frz, ho, St.mp, hR.h.len], ?_, ?_, ?_⟩⟩, ⟨Ch.refl _ _, hFF, fun b h => .inl (hown b h).1, fun b h => (hFo b h).elim .inl (fun k => .inr (.inl k))⟩, hm.1⟩
 ·intro m x u h1 h2
  cases hl : x.live with
  | false => cases x <;> first | trivial | simp [AObj.live] at hl
  | true =>
   obtain ⟨y, k1, k2, k3, rfl⟩ := hlive h1 hl
   exact (hR.h.ob m y u k1 h2).mp leaf (fun _ _ => rfl) hFF (fun _ _ => rfl)
 ·intro m m' o1 o2 v1 v2 b k1 k2 k3 k4 k5 k6 k7 k8
  obtain ⟨y1, z1, z2, _⟩ := hlive k1 k3
  obtain ⟨y2, z3, z4, _⟩ := hlive k2 k4
  exact hR.h.dist m m' y1 y2 v1 v2 b z1 z3 z2 z4 k5 k6 k7 k8
 ·intro b hbb
  rcases hbb with hbb | hbb
  ·rcases hbb with hbb | hbb
   ·exact ⟨(hR.h.froz b (.inl hbb)).1, fun h => (hR.h.froz b (.inl hbb)).2 (hown b h).1⟩
   ·exact ⟨hor.blk_lt rfl hbb, fun h => (hown b h).2 hbb⟩
  ·exact ⟨(hR.h.froz b (.inr hbb)).1, fun h => (hR.h.froz b (.inr hbb)).2 (hown b h).1⟩
end
end Go.Ax
