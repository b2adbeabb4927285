/- Merged. -/
import Derived.Test.YthcfkplfmjcmoaaGreatDoorQ06
namespace Go.Ax
open Go.RowKit
set_option linter.unusedVariables false
set_option linter.unusedSimpArgs false
section
variable {P : Program} {gl : Glb} {kd : TypeId → Option EK} {ρ : List Value} {F L B : Nat → Prop} {s : St} {a : Act} {w : World}
theorem VR.leaf_ren {ρ' : List Value} {w' : World} {F' B' : Nat → Prop} {v : AVal} {x : Value} (hl : v.isLeaf = true) (h : VR ρ w F B v x) (hF : ∀ b, F b → w'.heap[b]? = w.heap[b]?) (hB : ∀ b, B b → w'.heap[b]? = w.heap[b]?) (hFF : ∀ b, F b → F' b) (hBB : ∀ b, B b → B' b) :
  (v.nm = none → VR ρ' w' F' B' v x) ∧ ∀ m m', v.nm = some m → (∀ u, ρ[m]? = some u → ρ'[m']? = some u) → VR ρ' w' F' B' (v.rename m') x := by
 have hq0 : ∀ (q : Bool) (b : Nat), (if q then B else F) b → w'.heap[b]? = w.heap[b]? := fun q b h => by cases q; exact hF b h; exact hB b h
 have hq1 : ∀ (q : Bool) (b : Nat), (if q then B else F) b → (if q then B' else F') b := fun q b h => by cases q; exact hFF b h; exact hBB b h
 cases v <;> simp only [AVal.nm, AVal.isLeaf, AVal.rename, reduceCtorEq, Option.some.injEq, false_implies, implies_true, and_true, true_implies, true_and] at hl ⊢
 case int => exact h
 case bool => exact h
 case sl e xs => exact Rd.mono hF hFF h
 case sln e xs => exact ⟨Rd.mono hF hFF h.1, h.2⟩
 case bsl e xs => exact Rd.mono hB hBB h
 case ptr n off => rintro m m' rfl hm; simp only [VR] at h ⊢; obtain ⟨b, h1, h2⟩ := h; exact ⟨b, hm _ h1, h2⟩
 case ept n sz i off => rintro m m' rfl hm; simp only [VR] at h ⊢; obtain ⟨b, o, len, cap, h1, h2⟩ := h; exact ⟨b, o, len, cap, hm _ h1, h2⟩
 case dpt q e y off =>
  simp only [VR] at h ⊢
  obtain ⟨b, o, row, h1, h2, h3, h4⟩ := h
  exact ⟨b, o, row, h1, hq1 q _ h2, Rd.mono (hq0 q) (hq1 q) h3, fun j u hu => by rw [bK (w := w) (hq0 q b h2)]; exact h4 j u hu⟩
 case ixp n b0 cnt sz i off => rintro m m' rfl hm; simp only [VR] at h ⊢; obtain ⟨b, h1, h2⟩ := h; exact ⟨b, hm _ h1, h2⟩
 case dxp q e y b0 cnt sz i off =>
  simp only [VR] at h ⊢
  obtain ⟨b, o, row, h1, h2, h3, h4, h5, h6⟩ := h
  exact ⟨b, o, row, h1, h2, h3, hq1 q _ h4, Rd.mono (hq0 q) (hq1 q) h5, fun j u hu => by rw [bK (w := w) (hq0 q b h4)]; exact h6 j u hu⟩
 case own n => rintro m m' rfl hm; simp only [VR] at h ⊢; exact ⟨hm _ h.1, h.2⟩
 case vw n hi => rintro m m' rfl hm; simp only [VR] at h ⊢; obtain ⟨A, len, cap, h1, h2⟩ := h; exact ⟨A, len, cap, hm _ h1, h2⟩
 case vd n sz lo hi => rintro m m' rfl hm; simp only [VR] at h ⊢; obtain ⟨A, len, cap, h1, h2⟩ := h; exact ⟨A, len, cap, hm _ h1, h2⟩
 case asl n b0 cnt => rintro m m' rfl hm; simp only [VR] at h ⊢; obtain ⟨b, cap, h1, h2⟩ := h; exact ⟨b, cap, hm _ h1, h2⟩
 case map n => rintro m m' rfl hm; simp only [VR] at h ⊢; exact ⟨hm _ h.1, h.2⟩
 case con c => exact h
 case any => trivial
 case ownC n c => rintro m m' rfl hm; simp only [VR] at h ⊢; exact ⟨hm _ h.1, h.2⟩
theorem xA {v : AVal} {n : Nat} (h : v.nm = some n) : v.rename n = v := by cases v <;> simp_all [AVal.nm, AVal.rename]
theorem aBs {w' : World} {n : Nat} {k k' : EK} {xs : List k'.T} {ys : List k.T} {base v' : Value} (hR : Rep ρ F L s a w) (ho : s.hp[n]? = some (.arr k' xs)) (hn : ρ[n]? = some base) (hc : Ch w w' (fun b => blk base = some b)) (hor : OR ρ w' F (Bx F L) v' (.arr k ys)) (hb : blk v' = blk base ∨ ∀ b, blk v' = some b → w.heap.size ≤ b) :
  Rep (ρ.set n v') F L { s.mp (nX n) with hp := (s.mp (nX n)).hp.set n (.arr k ys) } a w' ∧ Stp w (Own ρ s.hp) F w' (Own (ρ.set n v') ((s.mp (nX n)).hp.set n (.arr k ys))) F := by
 have hco : Ch w w' (fun b => Own ρ s.hp b) := hc.mono (fun b hb => ⟨n, _, _, ho, rfl, hn, hb⟩)
 have hB : ∀ b, Bx F L b → w'.heap[b]? = w.heap[b]? := fun b hb => hco.block b (hR.h.froz b hb).1 (hR.h.froz b hb).2
 have hnl : n < ρ.length := (List.getElem?_eq_some_iff.1 hn).1
 have hρ : ∀ m u, m ≠ n → ρ[m]? = some u → (ρ.set n v')[m]? = some u := fun m u hm hu => by rw [List.getElem?_set_ne (fun e => hm e.symm)]; exact hu
 have leaf : ∀ v x, v.isLeaf = true → VR ρ w F (Bx F L) v x → VR (ρ.set n v') w' F (Bx F L) (nX n v) x := fun v x hv hx => by
  have h0 := VR.leaf_ren (ρ' := ρ.set n v') hv hx (fun b hb => hB b (.inl hb)) hB (fun _ h => h) (fun _ h => h)
  unfold nX
  cases hm : v.nm with
  | none => exact h0.1 hm
  | some m =>
   dsimp only
   split
   ·simp [VR]
   ·rename_i hmn
    have := h0.2 m m hm (fun u hu => hρ m u hmn hu)
    rwa [xA hm] at this
 have hmp := VR.mp leaf
 have key : ∀ (m : Nat) (x : AObj), ((s.mp (nX n)).hp.set n (.arr k ys))[m]? = some x → (m = n ∧ x = .arr k ys) ∨ (m ≠ n ∧ ∃ y, s.hp[m]? = some y ∧ x = y.mp (nX n)) := fun m x hx => by
  rw [List.getElem?_set] at hx
  split at hx
  ·rename_i e
   split at hx
   ·cases hx; exact .inl ⟨e.symm, rfl⟩
   ·cases hx
  ·rename_i e
   simp only [St.mp, List.getElem?_map] at hx
   obtain ⟨y, hy, rfl⟩ := Option.map_eq_some_iff.1 hx
   exact .inr ⟨fun h => e h.symm, y, hy, rfl⟩
 have val : ∀ (m : Nat) (u : Value), (ρ.set n v')[m]? = some u → (m = n ∧ u = v') ∨ (m ≠ n ∧ ρ[m]? = some u) := fun m u hu => by
  rw [List.getElem?_set] at hu
  split at hu
  ·rename_i e
   exact .inl ⟨e.symm, (Option.some.inj hu).symm⟩
  ·rename_i e
   exact .inr ⟨fun h => e h.symm, hu⟩
 have oldlt : ∀ (m : Nat) (y : AObj) (u : Value) (b : Nat), s.hp[m]? = some y → y.live = true → ρ[m]? = some u → blk u = some b → b < w.heap.size := fun m y u b h1 h2 h3 h4 => (hR.h.ob m y u h1 h3).blk_lt h2 h4
 have vblk : ∀ b, blk v' = some b → blk base = some b ∨ w.heap.size ≤ b := fun b hbb => hb.elim (fun e => .inl (e ▸ hbb)) (fun h => .inr (h b hbb))
 have ownd : ∀ b, Own (ρ.set n v') ((s.mp (nX n)).hp.set n (.arr k ys)) b → Own ρ s.hp b ∨ w.heap.size ≤ b := fun b ⟨m, x, u, h1, h2, h3, h4⟩ => by
  rcases key m x h1 with ⟨rfl, rfl⟩ | ⟨hm, y, hy, rfl⟩
  ·rcases val m u h3 with ⟨_, rfl⟩ | ⟨hm, _⟩
   ·exact (vblk b h4).imp (fun h => ⟨m, _, base, ho, rfl, hn, h⟩) id
   ·exact absurd rfl hm
  ·rcases val m u h3 with ⟨rfl, _⟩ | ⟨_, hu⟩
   ·exact absurd rfl hm
   ·exact .inl ⟨m, y, u, hy, by rw [AObj.mp_live] at h2; exact h2, hu, h4⟩
 refine ⟨⟨by simpa only [St.mp] using hmp.2 _ _ hR.tm, ⟨by simp [St.mp, hR.h.len], fun m x u h1 h2 =>?_, fun m m' o1 o2 v1 v2 b k1 k2 k3 k4 k5 k6 k7 k8 =>?_, fun b hbb =>?_⟩⟩, ⟨hco, fun _ h => h, ownd, fun _ h => .inl h⟩⟩
 ·rcases key m x h1 with ⟨rfl, rfl⟩ | ⟨hm, y, hy, rfl⟩
  ·rcases val m u h2 with ⟨_, rfl⟩ | ⟨hm, _⟩
   ·rcases hor with h | h
    ·exact .inl h
    ·exact .inr h
   ·exact absurd rfl hm
  ·rcases val m u h2 with ⟨rfl, _⟩ | ⟨_, hu⟩
   ·exact absurd rfl hm
   ·cases hl : y.live with
    | false => cases y <;> first | trivial | simp [AObj.live] at hl
    | true =>
     refine (hR.h.ob m y u hy hu).mp leaf (fun b hb => hB b (.inl hb)) (fun _ h => h) (fun b hbu => hc.block b (oldlt m y u b hy hl hu hbu) (fun e => hm ?_))
     exact hR.h.dist m n y _ u base b hy ho hl rfl hu hn hbu e
 ·rcases key m o1 k1 with ⟨rfl, rfl⟩ | ⟨hm, y, hy, rfl⟩ <;> rcases key m' o2 k2 with ⟨rfl, rfl⟩ | ⟨hm', y', hy', rfl⟩
  ·rfl
  ·rcases val m v1 k5 with ⟨_, rfl⟩ | ⟨h, _⟩
   ·rcases val m' v2 k6 with ⟨rfl, _⟩ | ⟨_, hu⟩
    ·exact absurd rfl hm'
    ·rw [AObj.mp_live] at k4
     rcases vblk b k7 with h | h
     ·exact hR.h.dist m m' _ y' base v2 b ho hy' rfl k4 hn hu h k8
     ·have := oldlt m' y' v2 b hy' k4 hu k8
      omega
   ·exact absurd rfl h
  ·rcases val m' v2 k6 with ⟨_, rfl⟩ | ⟨h, _⟩
   ·rcases val m v1 k5 with ⟨rfl, _⟩ | ⟨_, hu⟩
    ·exact absurd rfl hm
    ·rw [AObj.mp_live] at k3
     rcases vblk b k8 with h | h
     ·exact hR.h.dist m m' y _ v1 base b hy ho k3 rfl hu hn k7 h
     ·have := oldlt m y v1 b hy k3 hu k7
      omega
   ·exact absurd rfl h
  ·rcases val m v1 k5 with ⟨rfl, _⟩ | ⟨_, hu1⟩
   ·exact absurd rfl hm
   ·rcases val m' v2 k6 with ⟨rfl, _⟩ | ⟨_, hu2⟩
    ·exact absurd rfl hm'
    ·rw [AObj.mp_live] at k3 k4
     exact hR.h.dist m m' y y' v1 v2 b hy hy' k3 k4 hu1 hu2 k7 k8
 ·have := hR.h.froz b hbb
  exact ⟨Nat.lt_of_lt_of_le this.1 hc.size, fun h => (ownd b h).elim this.2 (fun h => by omega)⟩
theorem bMp {l : List Operand} {x y : AVal} (hv : VRs ρ w F B [x, y] (l.map a.eval)) : ∃ u v, l.map a.eval = [u, v] ∧ VR ρ w F B x u ∧ VR ρ w F B y v := by
 generalize l.map a.eval = vs at hv
 match vs, hv with
 | [u, v], hv => simp only [VRs, and_true] at hv; exact ⟨u, v, rfl, hv⟩
 | [], hv => simp [VRs] at hv
 | [_], hv => simp [VRs] at hv
 | _ :: _ :: _ :: _, hv => simp [VRs] at hv
theorem aEg {o : Oper} {c : Call} {n : Nat} {k : EK} {xs ys : List k.T} {m : Nat} {A : Option Addr} {cap : Nat} {u u0 : Value} {t e : TypeId} {ie : TypeInfo} {z : Value} (hR : Rep ρ F L s a w) (hop : o.op = .call c) (hcal : c.callee = .builtin .append) (hat : c.argTypes = #[t, t]) (hargs : c.args.map a.eval = #[u0, u]) (h0 : u0 = .slice A m cap) (ho : s.hp[n]? = some (.arr k xs)) (hn : ρ[n]? = some (.slice A xs.length cap)) (hm : m ≤ xs.length)
  (ht : P.underlying t = some (.slice e)) (hi : P.info? e = some ie) (hz : ie.zero = some z) (hs : ie.size = k.sz) (hzs : z.cells.size = k.sz) (hk : 0 < k.sz) (hby : ie.bytes ≤ 1000) (hu : RowIs w F k ys u) (hlen : m + ys.length ≤ 1000000000) :
  Ef P o a w ρ F L s (some n) (.own n) { s.mp (nX n) with hp := (s.mp (nX n)).hp.set n (.arr k (xs.take m ++ ys)) } := by
 obtain ⟨v', w', h1, h2, h3, h4, h5⟩ := aBr (ty := o.type) hR.h ho hn hm ht hi hz hs hzs hk hby hu hlen
 obtain ⟨h6, h7⟩ := aBs hR ho hn h3 h2 h4
 subst h0
 have hnl : n < ρ.length := (List.getElem?_eq_some_iff.1 hn).1
 refine ⟨v', w', ρ.set n v', F, .inl ?_, h6, h7, ?_, fun q x hq =>?_, h3.mono (fun b hb => ⟨n, _, rfl, hn, hb⟩), fun q x o b k1 k2 k3 k4 k5 =>?_⟩
 ·unfold execOp
  simp only [hop, Sem.run_bind]
  unfold resolve
  simp [hcal, hargs, hat, invoke, builtin, h1]
 ·simp only [VR]
  exact ⟨by rw [List.getElem?_set_self hnl], h5⟩
 ·rw [List.getElem?_set_ne]
  ·exact hq
  ·rintro rfl
   rw [hn] at hq
   cases hq
 ·by_cases c : n = q
  ·subst c
   rw [List.getElem?_set_self hnl] at k1
   cases k1
   rcases h4 with h4 | h4
   ·exact ⟨n, _, _, hn, ho, rfl, h4 ▸ k4, .inl rfl⟩
   ·have := h4 b k4
    omega
  ·rw [List.getElem?_set_ne c] at k1
   have k2 : ((s.mp (nX n)).hp.set n (.arr k (xs.take m ++ ys)))[q]? = some o := k2
   rw [List.getElem?_set_ne c] at k2
   simp only [St.mp, List.getElem?_map] at k2
   obtain ⟨y, hy, rfl⟩ := Option.map_eq_some_iff.1 k2
   exact ⟨q, x, y, k1, hy, by rw [AObj.mp_live] at k3; exact k3, k4, .inl rfl⟩
set_option maxHeartbeats 1600000 in
theorem aBt {l c : Operand} (h : bBs l c = true) : a.eval l = a.eval c := by
 unfold bBs at h
 split at h
 ·rw [eq_of_beq h]
 ·rw [eq_of_beq h]
 ·cases h
theorem aOo (hR : Rep ρ F L s a w) (hg : Glo gl w F) {o : Oper} {v : AVal} {s' : St} (h : aopE P gl kd o.op s = some (true, v, s')) : Ef P o a w ρ F L s (wrN gl o.op s) v s' := by
 have E := fun x => kF hR hg x
 obtain ⟨dst, op, ty, pos, after, guard⟩ := o
 cases op <;> simp only [aopE] at h
 case alloc t =>
  obtain ⟨l, h1, h2⟩ := Option.map_eq_some_iff.1 h
  cases h2
  unfold bBq at h1
  obtain ⟨i, hi, h1⟩ := Option.bind_eq_some_iff.1 h1
  obtain ⟨z, hz, rfl⟩ := Option.map_eq_some_iff.1 h1
  exact aGe (cs := z.cells) (ty := t) hR (cB _) (by simp [execOp, Instr.alloc, zeroValue, typeInfo, hi, hz, newVar, newRow])
 case box t x =>
  have hx := E x
  split at h
  ·rename_i l e1
   cases h
   rw [e1] at hx
   simp only [VR] at hx
   obtain ⟨cs, h2, h3⟩ := hx
   exact aGe (cs := cs) (ty := t) hR h3 (by simp [execOp, h2, Instr.box, newVar, newRow, Value.cells])
  ·split at h
   ·rename_i hna hone
    cases h
    have hc := lO (v := ev gl s x) hx (by cases hv : ev gl s x <;> simp_all [aV])
    have hc' : aV (ev gl s x) = [ev gl s x] := by cases hv : ev gl s x <;> first | rfl|exact absurd hv (hna _)
    rw [hc'] at hc
    exact aGe (cs := (a.eval x).cells) (ty := t) hR hc (by simp [execOp, Instr.box, newVar, newRow])
   ·cases h
 case buildSlice t n ps =>
  split at h
  ·rename_i e hte
   split at h
   ·rename_i k ie hk hie
    split at h
    ·rename_i z hz
     split at h
     ·rename_i hn0
      split at h
      ·rename_i hc
       obtain ⟨c1, c2⟩ := hc
       cases h
       subst hn0
       have hp : ps = #[] := Array.eq_empty_of_size_eq_zero c2
       subst hp
       have hch : Ch w (w.alloc (.cells #[] e)) (fun _ => False) := Ch.alloc _ _ _
       refine Ef.new hR (base := .slice (some ⟨w.heap.size, 0, none⟩) 0 0) (w' := w.alloc (.cells #[] e)) ?_ hch (.inr ⟨w.heap.size, 0, #[], e, fun i => [], rfl, heap_alloc_new w _, Nat.le_refl _, by simp, fun i hi => absurd hi (Nat.not_lt_zero _), fun i j u hi => absurd hi (Nat.not_lt_zero _)⟩) (fun b hb =>?_) (oB hR.h.len)
       ·simp [execOp, Instr.buildSlice, run_underlying hte, sizeOf, typeInfo, hie, Instr.fill, newRow, Array.range_zero']
       ·simp only [blk, Option.some.injEq] at hb
        omega
      ·cases h
     split at h
     ·rename_i hc
      obtain ⟨c1, c2, c3, c4⟩ := hc
      obtain ⟨l, h1, h⟩ := Option.bind_eq_some_iff.1 h
      obtain ⟨xs, h2, h3⟩ := Option.map_eq_some_iff.1 h
      cases h3
      have hv := cY hR hg (ps.toList.map (·.2))
      have hz0 : VRs ρ w F (Bx F L) ((List.range (n * k.sz)).map fun j => cv0 (z.cells[j % z.cells.size]!)) ((Array.range (n * k.sz)).map (z.cells[· % z.cells.size]!)).toList := by
       have := cB (ρ := ρ) (w := w) (F := F) (B := Bx F L) ((Array.range (n * k.sz)).map (z.cells[· % z.cells.size]!)).toList
       simpa [Function.comp_def] using this
      obtain ⟨cs', h4, h5⟩ := iA (pvs := (ps.map fun (i, x) => (i, a.eval x)).toList) hz0 (by simp [Function.comp_def]) (by simpa [Function.comp_def] using hv) h1
      obtain ⟨h6, h7⟩ := kG h5 h2
      have hrun := run_buildSlice (P := P) w t e n (ps.map fun (i, x) => (i, a.eval x)) cs' ie z hte hie hz (by rw [c1]; omega) (by rw [c1]; have := Nat.mul_pos c2 c3; omega) (by rw [c1]; exact h4)
      have hch : Ch w (w.alloc (.cells cs' e)) (fun _ => False) := Ch.alloc _ _ _
      have hsz : cs'.size = n * k.sz := by
       have e1 := h5.length
       simp only [Array.length_toList] at e1
       have e2 : l.length = n * k.sz := by
        have : ∀ (parts : List (Nat × AVal)) (l0 l1 : List AVal), mX (fun i => some (i * k.sz, k.sz)) l0 parts = some l1 → l1.length = l0.length := by
         intro parts
         induction parts with
         | nil => intro l0 l1 hh; simp only [mX, Option.some.injEq] at hh; rw [hh]
         | cons p parts ih =>
          intro l0 l1 hh
          obtain ⟨i, x⟩ := p
          simp only [mX] at hh
          split at hh
          ·rename_i hcc
           rw [ih _ _ hh]
           simp [yA]
           omega
          ·cases hh
        rw [this _ _ _ h1]
        simp
       omega
      refine Ef.new hR (base := .slice (some ⟨w.heap.size, 0, none⟩) n n) (w' := w.alloc (.cells cs' e)) ?_ hch ?_ (fun b hb =>?_) (oB hR.h.len)
      ·simp only [execOp, Sem.run_bind]
       rw [hrun]
       simp
      ·refine .inr ⟨w.heap.size, n, cs', e, fun i => (cs'.toList.drop (0 + i * k.sz)).take k.sz, by rw [h6], heap_alloc_new w _, by omega, hsz, fun i hi => (h7 i hi).mono (fun b hb => Below.heap_alloc w _ b (hR.h.froz b (.inl hb)).1) (fun _ h => h), fun i j u hi hj =>?_⟩
       rw [List.getElem?_take] at hj
       split at hj
       ·rw [List.getElem?_drop] at hj
        simpa using hj
       ·cases hj
      ·simp only [blk, Option.some.injEq] at hb
       omega
     ·cases h
    ·cases h
   ·cases h
  ·cases h
 case makeSlice t l c =>
  split at h
  ·rename_i e hte
   split at h
   ·rename_i k ie n hk hie hl
    split at h
    ·rename_i z hz
     split at h
     ·rename_i hc
      obtain ⟨c1, c2, c3, c4, c5⟩ := hc
      obtain ⟨x, h1, h2⟩ := Option.map_eq_some_iff.1 h
      simp only [Prod.mk.injEq, Bool.and_eq_true, decide_eq_true_eq] at h2
      obtain ⟨⟨h3, h4⟩, rfl, rfl⟩ := h2
      have h5 := E l
      rw [hl] at h5
      simp only [VR] at h5
      have h6 : a.eval c = .int .i64 n := by rw [← aBt c5]; exact h5
      have hx := nL h1 (cB (ρ := ρ) (w := w) (F := F) (B := Bx F L) z.cells.toList)
      have hbn : (ie.bytes : Int) * n ≤ 1000 * 1000000000 := Int.mul_le_mul (by omega) h4 h3 (by omega)
      have hrun := run_make (P := P) w t e ie z hte hie hz .i64 .i64 n n h3 (Int.le_refl _) (by omega) (by omega)
      have hch : Ch w (w.alloc (.cells (madeCells z.cells (n.toNat * ie.size)) e)) (fun _ => False) := Ch.alloc _ _ _
      refine Ef.new hR (base := .slice (some ⟨w.heap.size, 0, none⟩) n.toNat n.toNat) (w' := w.alloc (.cells (madeCells z.cells (n.toNat * ie.size)) e)) ?_ hch ?_ (fun b hb =>?_) (oB hR.h.len)
      ·simp only [execOp, h5, h6, Sem.run_bind]
       rw [hrun]
       simp
      ·refine .inr ⟨w.heap.size, n.toNat, _, e, fun i => z.cells.toList, by simp, heap_alloc_new w _, by simp, by rw [size_madeCells, c1], fun i hi =>?_, fun i j u hi hj =>?_⟩
       ·rw [List.getElem_replicate]
        exact hx.mono (fun b hb => Below.heap_alloc w _ b (hR.h.froz b (.inl hb)).1) (fun _ h => h)
       ·have hj' : j < z.cells.size := by simpa using (List.getElem?_eq_some_iff.1 hj).1
        rw [List.length_replicate] at hi
        have hlt : i * k.sz + j < n.toNat * ie.size := by
         have : (i + 1) * k.sz ≤ n.toNat * k.sz := Nat.mul_le_mul_right _ hi
         rw [Nat.add_mul] at this
         rw [c1]
         omega
        have hm : (i * k.sz + j) % z.cells.size = j := by rw [c2, Nat.mul_comm, Nat.mul_add_mod, Nat.mod_eq_of_lt (by omega)]
        rw [madeCells, Array.getElem?_map, Array.getElem?_range, if_pos hlt]
        simp only [Option.map_some, hm]
        rw [getElem!_pos z.cells j hj', ← hj]
        simp [hj']
      ·simp only [blk, Option.some.injEq] at hb
       omega
     ·cases h
    ·cases h
   ·cases h
  ·cases h
 case store t x y =>
  obtain ⟨s1, h1, h2⟩ := Option.map_eq_some_iff.1 h
  cases h2
  obtain ⟨F', h3, h4, h5⟩ := iB (match ev gl s x with | .ept _ _ _ _ | .ixp _ _ _ _ _ _ => (ev gl s y).rows | _ => []) hR (E y)
  have hx : VR ρ w F' (Bx F' L) (ev gl s x) (a.eval x) := (VR.mono (fun _ _ h => h) (fun _ _ => rfl) (fun _ _ => rfl) h4.fF (fun b hb => hb.imp (h4.fF b) id)).1 _ _ (E x)
  obtain ⟨w', h6, h7, h8, h9⟩ := aWr h3 h1 h5 hx
  exact ⟨undef, w', ρ, F', .inr ⟨by simp [execOp, h6], rfl⟩, h7, h4.trans h8, trivial, PK.refl _, h9, ((yF _ _ _).trans (bKy h1)).nk⟩
 case call c =>
  split at h
  ·rename_i x y t t' hcal hargs hat
   split at h
   ·rename_i htt
    subst htt
    split at h
    ·rename_i e hte
     split at h
     ·rename_i k ie hk hie
      split at h
      ·rename_i z hz
       split at h
       ·rename_i hc
        obtain ⟨c1, c2, c3, c4⟩ := hc
        obtain ⟨ys, h1, h⟩ := Option.bind_eq_some_iff.1 h
        have hv := cY hR hg c.args.toList
        rw [hargs] at hv
        obtain ⟨u, u2, hu, hv1, hv2⟩ := bMp hv
        have hu' : c.args.map a.eval = #[u, u2] := by
         rw [← Array.toList_inj]
         simpa using hu
        have hat' : c.argTypes = #[t, t] := by
         rw [← Array.toList_inj]
         simpa using hat
        have hri := aOn hR h1 hv2
        have hwr : wrN gl (.call c) s = x.nm := by simp [wrN, hcal, hargs]
        rw [hwr]
        split at h
        ·rename_i n
         split at h
         ·rename_i k' xs ho
          split at h
          ·rename_i hkk
           subst hkk
           simp only [Option.some.injEq, Prod.mk.injEq, decide_eq_true_eq] at h
           obtain ⟨hlen, rfl, rfl⟩ := h
           obtain ⟨A, cap, q1, q2, _⟩ := oA hR ho
           simp only [VR] at hv1
           have hv3 := hv1.1
           rw [q1] at hv3
           have := aEg (o := { dst := dst, op := .call c, type := ty, pos := pos, after := after, guard := guard }) hR rfl hcal hat' hu' (Option.some.inj hv3).symm ho q1 (Nat.le_refl _) hte hie hz c1 c2 c3 c4 hri hlen
           rwa [List.take_length] at this
          ·cases h
         ·cases h
        ·rename_i n hi
         split at h
         ·rename_i k' xs ho
          split at h
          ·rename_i hkk
           subst hkk
           simp only [Option.some.injEq, Prod.mk.injEq, decide_eq_true_eq] at h
           obtain ⟨hlen, rfl, rfl⟩ := h
           obtain ⟨A, cap, q1, q2, _⟩ := oA hR ho
           simp only [VR] at hv1
           obtain ⟨A', len', cap', r1, r2, r3, r4⟩ := hv1
           rw [q1] at r1
           cases r1
           exact aEg (o := { dst := dst, op := .call c, type := ty, pos := pos, after := after, guard := guard }) hR rfl hcal hat' hu' r4 ho q1 (by omega) hte hie hz c1 c2 c3 c4 hri hlen
          ·cases h
         ·cases h
        ·rename_i c'
         split at h
         ·rename_i hnil
          simp only [Option.some.injEq, Prod.mk.injEq, decide_eq_true_eq] at h
          obtain ⟨hlen, rfl, rfl⟩ := h
          simp only [VR] at hv1
          have hun : u = .slice none 0 0 := by rw [hv1]; exact cH hnil
          have hR2 := hR.new (w' := w) (o := .arr k ([] : List k.T)) (v := .slice none 0 0) (Ch.refl _ _) (.inl ⟨rfl, rfl⟩) (fun b hb => by simp [blk] at hb)
          have hl1 : (s.hp ++ [AObj.arr k ([] : List k.T)])[s.hp.length]? = some (.arr k []) := by simp
          have hl2 : (ρ ++ [Value.slice none 0 0])[s.hp.length]? = some (.slice none 0 0) := by rw [← hR.h.len]; simp
          obtain ⟨v', w', k1, k2, k3, k4, k5⟩ := aBr (P := P) (s := { s with hp := s.hp ++ [AObj.arr k ([] : List k.T)] }) (ty := ty) (m := 0) (A := none) (cap := 0) hR2.h hl1 hl2 (Nat.zero_le _) hte hie hz c1 c2 c3 c4 hri (by omega)
          have hc0 : Ch w w' (fun _ => False) := k3.mono (fun b hb => by simp [blk] at hb)
          have k2' : OR ρ w' F (Bx F L) v' (.arr k ys) := by
           simp only [List.take_nil, List.nil_append] at k2
           rcases k2 with k2 | k2
           ·exact .inl k2
           ·exact .inr k2
          obtain ⟨A', l', cc', rfl⟩ := k5
          refine Ef.new hR (base := .slice A' l' cc') ?_ hc0 k2' (fun b hb =>?_) (oB hR.h.len)
          ·unfold execOp
           simp only [Sem.run_bind]
           unfold resolve
           subst hun
           simp [hcal, hu', hat', invoke, builtin, k1]
          ·rcases k4 with k4 | k4
           ·rw [k4] at hb
            simp [blk] at hb
           ·exact k4 b hb
         ·cases h
        ·cases h
       ·cases h
      ·cases h
     ·cases h
    ·cases h
   ·cases h
  ·cases h
 all_goals cases h
end
inductive AOut
 | ret (v : AVal)
 | pan (v : AVal)
inductive Mode
 | keep
 | lend (e : EK)
 | give
structure Con where
 X : Type
 Y : Type
 modes : List Mode
 fix : List Nat := []
 dec : List AVal → List AObj → Option X
 spec : X → Option Y
 out : Y → AOut × List AObj
 cps : {R : Type} → Y → (AOut → List AObj → R) → R
 law : ∀ {R : Type} (y : Y) (K : AOut → List AObj → R), cps y K = K (out y).1 (out y).2
 run : {Z : Type} → X → (Y → Option Z) → Option Z := fun x K => (spec x).bind K
 rlaw : ∀ {Z : Type} (x : X) (K : Y → Option Z), run x K = (spec x).bind K := by intros; rfl

mutual
def AVal.nms : AVal → List Nat
 | .agg l => AVal.nmsL l
 | .tup l => AVal.nmsL l
 | .clo _ l => AVal.nmsL l
 | .ifc _ v => AVal.nms v
 | v => v.nm.toList
def AVal.nmsL : List AVal → List Nat
 | [] => []
 | a :: l => AVal.nms a ++ AVal.nmsL l
end
def AObj.nms : AObj → List Nat
 | .box l => AVal.nmsL l
 | _ => []
def aEh (h : List AObj) : (fuel : Nat) → (todo acc : List Nat) → List Nat
 | 0, _, acc => acc
 | _ + 1, [], acc => acc
 | f + 1, n :: todo, acc => if acc.contains n then aEh h f todo acc else aEh h f (todo ++ (h.getD n .dead).nms) (acc ++ [n])
def lY {α : Type} : List α → List Nat → List α → List α
 | l, n :: ns, x :: xs => lY (l.set n x) ns xs
 | l, _, _ => l
def idxN : List Nat → Nat → Option Nat
 | [], _ => none
 | m :: l, n => if m = n then some 0 else (idxN l n).map (· + 1)
def strV (v : AVal) : AVal := match v with
 | .bsl _ _ => .any
 | .dpt true _ _ _ => .any
 | .dxp true _ _ _ _ _ _ _ => .any
 | v => v
def bBv (s : St) (e : EK) (v : AVal) : Option AVal := match v with
 | .bsl k xs => if k = e then some (.bsl k xs) else none
 | .con v => if kE v then some (.bsl e []) else none
 | v => (rowA s e v).map (.bsl e)
def sM : List Mode → List AVal → St → Option (List AVal)
 | .lend e :: ms, v :: l, s => (bBv s e v).bind fun v' => (sM ms l s).map (v' :: ·)
 | _ :: ms, v :: l, s => (sM ms l s).map (v :: ·)
 | [], l, _ => some l
 | _, [], _ => some []
def kJ : List Mode → List AVal → List Nat
 | .lend _ :: ms, v :: l => v.nm.toList ++ kJ ms l
 | _ :: ms, _ :: l => kJ ms l
 | _, _ => []
def aBu : List Mode → List AVal → List Nat
 | .give :: ms, v :: l => v.rows ++ aBu ms l
 | _ :: ms, _ :: l => aBu ms l
 | _, _ => []
def AVal.untup : AVal → List AVal
 | .tup l => l
 | _ => []
def iD : List Nat → Bool
 | [] => true
 | n :: l => !l.contains n && iD l
def prep (C : Con) (as : List AVal) (s : St) : Option (St × List Nat × C.X) :=
 let r := pK (aBu C.modes as) (.tup as) s
 (sM C.modes r.1.untup r.2).bind fun as1 =>
  let ns := aEh r.2.hp 64 (AVal.nmsL as1) []
  if ns.all (fun n => decide (n < r.2.hp.length)) && iD ns && (kJ C.modes r.1.untup).all (fun n => !ns.contains n) then
   (C.dec (AVal.mpl (sI (idxN ns)) as1) (ns.map fun n => (r.2.hp.getD n .dead).mp (sI (idxN ns)))).map fun x => (r.2, ns, x)
  else none
def AObj.isBox : AObj → Bool
 | .box _ => true
 | _ => false
def aBv (ns : List Nat) (v : AVal) : AVal := match v.nm with
 | none => v
 | some m => if ns.contains m then .any else v
def fwd (k : Nat) (ns : List Nat) (i : Nat) : Option Nat := if i < ns.length then ns[i]? else some (k + (i - ns.length))
def kilN (s : St) (ns fx : List Nat) : List Nat := ns.filter fun n => !(s.hp.getD n .dead).isBox && !(fx.filterMap fun i => ns[i]?).contains n
def after (s : St) (ns fx : List Nat) (h : List AObj) : St :=
 let s1 := s.mp (aBv (kilN s ns fx))
 { tm := s1.tm, hp := lY s1.hp ns (h.map (AObj.mp (fun v => strV (sI (fwd s.hp.length ns) v)))) ++ (h.drop ns.length).map (AObj.mp (fun v => strV (sI (fwd s.hp.length ns) v))) }
section
variable {Z : Type}
def aUh (C : Con) (p : St × List Nat × C.X) (K Kp : AVal → St → Option Z) : Option Z :=
 C.run p.2.2 fun y => C.cps y fun o h => if p.2.1.length ≤ h.length then
  (match o with
   | .ret v => K (v.mp (fun v => strV (sI (fwd p.1.hp.length p.2.1) v))) (after p.1 p.2.1 C.fix h)
   | .pan v => Kp (v.mp (fun v => strV (sI (fwd p.1.hp.length p.2.1) v))) (after p.1 p.2.1 C.fix h)) else none
def aEi (f : Nat) (as : List AVal) (s : St) (K Kp : AVal → St → Option Z) : List (Nat × Con) → Option Z
 | [] => none
 | (g, C) :: G => if g = f then (match prep C as s with
   | some p => aUh C p K Kp
   | none => aEi f as s K Kp G) else aEi f as s K Kp G
def rL (f : Nat) (as : List AVal) (s : St) : List (Nat × Con) → List Nat
 | [] => []
 | (g, C) :: G => if g = f then (match prep C as s with
   | some p => p.2.1
   | none => rL f as s G) else rL f as s G
variable (P : Program) (gl : Glb) (kd : TypeId → Option EK) (G : List (Nat × Con))
def St.put (s : St) (d : Option Tmp) (v : AVal) : St := { s with tm := match d with | some t => s.tm.set t v | none => s.tm }
def callee (s : St) (c : Call) : Option (Nat × List AVal) := match c.callee with
 | .value f => match ev gl s f with
  | .clo g caps => some (g % 1000000, caps.take (g / 1000000) ++ c.args.toList.map (ev gl s) ++ caps.drop (g / 1000000))
  | _ => none
 | _ => none
def bNq : Go.Op → Bool
 | .panic _ => true
 | .call c => match c.callee with
  | .builtin .panic => true
  | _ => false
 | _ => false
def ao1 (o : Go.Op) (s : St) (K Kp : AVal → St → Option Z) : Option Z :=
 if vK o then (aopP P gl o s).bind fun r => bif r.1 then K r.2 s else none
 else match o with
  | .load t x => (ldA P s t (ev gl s x)).bind fun v => K v s
  | .panic x => match ev gl s x with
   | .ifc t v => Kp (.ifc t v) s
   | _ => none
  | .call c => match c.callee with
   | .value _ => (callee gl s c).bind fun r => aEi r.1 r.2 s K Kp G
   | .builtin .panic => match c.args.toList.map (ev gl s) with
    | [.ifc t v] => Kp (.ifc t v) s
    | _ => none
   | .builtin _ => (aopE P gl kd (.call c) s).bind fun r => bif r.1 then K r.2.1 r.2.2 else none
   | .invoke _ _ => none
  | o => (aopE P gl kd o s).bind fun r => bif r.1 then K r.2.1 r.2.2 else none
def wrNs (o : Go.Op) (s : St) : List Nat := match o with
 | .call c => match callee gl s c with
  | some r => rL r.1 r.2 s G
  | none => (wrN gl o s).toList
 | o => (wrN gl o s).toList
def aEj (ops : Array Oper) (o : Oper) (s : St) (A B : Option Z) : Option Z := match o.guard with
 | none => A
 | some (j, want) => match (ops[j]?).bind (·.dst) with
  | none => none
  | some t => match s.tm.getD t .any with
   | .bool c => bif (c == want) then A else B
   | .tup [] => B
   | _ => none
def isG (ops : Array Oper) (d : Option Tmp) : Bool := d.isSome && ops.toList.any fun o => match o.guard with
 | some (j, _) => ((ops[j]?).bind (·.dst)) == d
 | none => false
def rM (g : Bool) (v : AVal) (K : AVal → Option Z) : Option Z := if g then (match v with
 | .bool c => bif c then K (.bool true) else K (.bool false)
 | v => K v) else K v
def aseq (ops : Array Oper) : List Oper → St → (St → Option Z) → (AVal → St → Option Z) → Option Z
 | [], s, K, _ => K s
 | o :: r, s, K, Kp => aEj ops o s (match bBr P gl kd o.op s with
   | some q => aseq ops r (q.2.put o.dst q.1) K Kp
   | none => ao1 P gl kd G o.op (preF P gl kd o.op s) (fun v s' => rM (isG ops o.dst) v fun v => aseq ops r (s'.put o.dst v) K Kp) Kp) (aseq ops r (s.put o.dst (.tup [])) K Kp)

inductive Stage
 | pure (i : Nat)
 | load (i : Nat)
 | eff (i : Nat) (dep frs : List Nat)
def bH : Go.Op → Bool
 | .alloc _ | .box .. | .buildSlice .. | .makeSlice .. => true
 | _ => false
def aOp : Go.Op → Bool
 | .load .. => true
 | _ => false
def sN (ops : Array Oper) (i : Nat) (p : Go.Op → Bool) : Bool := match ops[i]? with
 | some o => p o.op
 | none => false
def aEk (o : Oper) : List Nat := (o.after.toList.filter (Region.binds .any)).map (·.on)
def bP (ops : Array Oper) : List (List Nat) := ops.toList.map aEk
def aQ (N : List (List Nat)) (l : List Bool) : List Nat := (List.range N.length).filter fun i => !l.getD i true && (N.getD i []).all fun x => l.getD x false
def sO (ops : Array Oper) (N : List (List Nat)) (l : List Bool) (i : Nat) : Bool := match ops[i]? with
 | none => false
 | some oi => (List.range N.length).all fun j => j == i || l.getD j true || match ops[j]? with
  | some oj => (N.getD j []).contains i || oi.apart ops oj
  | none => true
def aBw : List (List Nat) → List Nat → List Nat
 | [], acc => acc
 | ns :: r, acc => aBw r (acc ++ [ns.foldl (fun m x => m ||| (1 <<< x) ||| acc.getD x 0) 0])
def xB (N : List (List Nat)) (j : Nat) : List Nat := (List.range N.length).filter fun i => ((aBw N []).getD j 0).testBit i
def vP (l : List Bool) (is : List Nat) : List Bool := is.foldl (fun l i => l.set i true) l
def sP (ops : Array Oper) (rs : List Nat) : Nat := (rs.find? fun i => !sN ops i bH).getD (rs.headD 0)
def okE (ops : Array Oper) (N : List (List Nat)) (l : List Bool) (rs : List Nat) (i : Nat) (frs : List Nat) : Bool :=
 frs.all (fun x => sN ops x bH) && (frs.isEmpty || rs.all (sO ops N l)) && (aQ N (vP l frs)).all (· == i)
def rN (ops : Array Oper) (N : List (List Nat)) : (fuel : Nat) → List Bool → Option (List Stage)
 | 0, l => if (aQ N l).isEmpty then some [] else none
 | fuel + 1, l => match (aQ N l).find? fun i => sN ops i vK && sO ops N l i with
  | some i => (rN ops N fuel (l.set i true)).map (.pure i :: ·)
  | none => match (aQ N l).find? fun i => sN ops i aOp && sO ops N l i with
   | some i => (rN ops N fuel (l.set i true)).map (.load i :: ·)
   | none => if (aQ N l).isEmpty then some [] else
    if okE ops N l (aQ N l) (sP ops (aQ N l)) ((aQ N l).filter (· != sP ops (aQ N l))) then
     (rN ops N fuel (l.set (sP ops (aQ N l)) true)).map (.eff (sP ops (aQ N l)) (xB N (sP ops (aQ N l))) ((aQ N l).filter (· != sP ops (aQ N l))) :: ·)
    else none
def bKz (hp : List AObj) (pins : List (Nat × Nat)) (dep ws : List Nat) : Bool := ws.all fun n => (hp.getD n .dead).live && pins.all fun p => p.2 != n || dep.contains p.1
def bBw (pins : List (Nat × Nat)) (ws : List Nat) (k : Nat) : List (Nat × Nat) := pins ++ (pins.filter fun p => ws.contains p.2).flatMap fun p => (List.range k).map fun m => (p.1, m)
def aUi (ops : Array Oper) (o : Oper) : Bool := match o.dst with
 | some d => !(o.looksAt ops).contains d
 | none => true
def aGf (ops : Array Oper) (s : St) (x : Nat) : Option Bool := match ops[x]? with
 | some o => if aUi ops o then (aopE P gl kd o.op s).map fun r => r.1 else none
 | none => none
def anyT (ops : Array Oper) (s : St) (x : Nat) : Bool := match ops[x]? with
 | some o => match o.dst with
  | some t => match s.tm.getD t .any with
   | .any => true
   | _ => false
  | none => true
 | none => false
def aGg (ops : Array Oper) (s : St) : List Nat → Option Bool
 | [] => some true
 | x :: r => if anyT ops s x then (aGf P gl kd ops s x).bind fun g => (aGg ops s r).map fun h => g && h else none
def nA (ops : Array Oper) : List Stage → (pins : List (Nat × Nat)) → St → (St → Option Z) → (AVal → St → Option Z) → Option Z
 | [], _, s, K, _ => K s
 | .pure i :: r, pins, s, K, Kp => match ops[i]? with
  | none => none
  | some o => aEj ops o s ((aopP P gl o.op s).bind fun q => bif q.1 then rM (isG ops o.dst) q.2 fun v => nA ops r pins (s.put o.dst v) K Kp else none) (nA ops r pins (s.put o.dst (.tup [])) K Kp)
 | .load i :: r, pins, s, K, Kp => match ops[i]? with
  | none => none
  | some o => match o.op with
   | .load t x => aEj ops o s (if (ev gl s x).nm.toList.all fun n => (s.hp.getD n .dead).live then (ldA P s t (ev gl s x)).bind fun v => rM (isG ops o.dst) v fun v => nA ops r (((ev gl s x).nm.toList.map fun n => (i, n)) ++ pins) (s.put o.dst v) K Kp else none) (nA ops r pins (s.put o.dst (.tup [])) K Kp)
   | _ => none
 | .eff i dep frs :: r, pins, s, K, Kp => match ops[i]? with
  | none => none
  | some o => (aGg P gl kd ops s frs).bind fun g0 => bif g0 then aEj ops o s (if bKz s.hp pins dep (wrNs gl G o.op s) then ao1 P gl kd G o.op s (fun v s' => rM (isG ops o.dst && !bH o.op) v fun v => nA ops r (bBw pins (wrNs gl G o.op s) s'.hp.length) (s'.put o.dst v) K Kp) Kp else none) (nA ops r pins (s.put o.dst (.tup [])) K Kp) else none

inductive AEx
 | normal
 | exit (id : Nat)
 | ret
 | pan (v : AVal)
def gP : Code → Nat
 | .region id _ _ => id
 | .seq a _ => gP a
 | .cond _ a _ => gP a
 | .block _ a => gP a
 | .loop a => gP a
 | .scope a => gP a
 | _ => 0
def aGh (l : List AVal) (o : Oper) : List AVal := match o.op with
 | .assign _ => l
 | _ => match o.dst with
  | some t => l.set t .any
  | none => l
def forget (ops : Array Oper) (s : St) : St := { s with tm := ops.toList.foldl aGh s.tm }
def plan (_ : Nat) (ops : Array Oper) : Option (List Stage) := if Region.noSelect ops then rN ops (bP ops) (bP ops).length ((bP ops).map fun _ => false) else none
end
section
variable {P : Program} {gl : Glb} {kd : TypeId → Option EK} {ρ : List Value} {F L B : Nat → Prop} {s : St} {a : Act} {w : World}
def yC (o : AOut) (e : Ending) (ρ : List Value) (w : World) (F B : Nat → Prop) : Prop := match o with
 | .ret v => ∃ x, e = .returned x ∧ VR ρ w F B v x
 | .pan v => ∃ x, e = .panicked [{ v := x, recovered := false }] ∧ VR ρ w F B v x
def aK (P : Program) (gl : Glb) (f : FuncId) (C : Con) : Prop :=
 ∀ (as : List AVal) (h : List AObj) (x : C.X) (y : C.Y), C.dec as h = some x → C.spec x = some y → ∀ (ρ : List Value) (F L : Nat → Prop) (w : World) (vs : Array Value), RepH ρ F L h w → VRs ρ w F (Bx F L) as vs.toList → Glo gl w F →
  Calls P f vs w fun e w' => ∃ ρ' F', yC (C.out y).1 e ρ' w' F' (Bx F' L) ∧ RepH ρ' F' L (C.out y).2 w' ∧ Stp w (Own ρ h) F w' (Own ρ' (C.out y).2) F' ∧ PK ρ ρ' ∧ ∀ i ∈ C.fix, ρ'[i]? = ρ[i]?

theorem aEl : ∀ {l : List Nat} {n i : Nat}, idxN l n = some i → l[i]? = some n
 | [], n, i, h => by simp [idxN] at h
 | m :: l, n, i, h => by
  simp only [idxN] at h
  split at h
  ·rename_i e
   cases h
   simp [e]
  ·obtain ⟨j, h1, rfl⟩ := Option.map_eq_some_iff.1 h
   simpa using aEl h1
theorem vQ : ∀ {l : List Nat}, iD l = true → ∀ {i j n : Nat}, l[i]? = some n → l[j]? = some n → i = j
 | [], _, i, j, n, h, _ => by simp at h
 | m :: l, hn, i, j, n, hi, hj => by
  simp only [iD, Bool.and_eq_true, Bool.not_eq_true'] at hn
  have hm : m ∉ l := by simpa using hn.1
  cases i with
  | zero =>
   simp at hi
   subst hi
   cases j with
   | zero => rfl
   | succ j => exact absurd (List.mem_of_getElem? (by simpa using hj)) hm
  | succ i =>
   cases j with
   | zero =>
    simp at hj
    subst hj
    exact absurd (List.mem_of_getElem? (by simpa using hi)) hm
   | succ j => exact congrArg (· + 1) (vQ hn.2 (by simpa using hi) (by simpa using hj))
theorem bL {α : Type} : ∀ (ns : List Nat) (l : List α) (xs : List α), (lY l ns xs).length = l.length
 | [], l, xs => by cases xs <;> rfl
 | n :: ns, l, [] => rfl
 | n :: ns, l, x :: xs => by simp [lY, bL ns]
theorem nP {α : Type} : ∀ (ns : List Nat) (l : List α) (xs : List α) {n : Nat}, n ∉ ns → (lY l ns xs)[n]? = l[n]?
 | [], l, xs, n, _ => by cases xs <;> rfl
 | m :: ns, l, [], n, _ => rfl
 | m :: ns, l, x :: xs, n, h => by
  simp only [lY]
  rw [nP ns _ xs (fun hh => h (List.mem_cons_of_mem _ hh)), List.getElem?_set_ne (fun e => h (by rw [e]; exact List.mem_cons_self))]
theorem vR {α : Type} : ∀ {ns : List Nat} {l : List α} {xs : List α} {i n : Nat} {x : α}, iD ns = true → ns[i]? = some n → xs[i]? = some x → n < l.length → (lY l ns xs)[n]? = some x
 | [], _, _, i, n, x, _, h, _, _ => by simp at h
 | m :: ns, l, [], i, n, x, _, _, h, _ => by simp at h
 | m :: ns, l, y :: xs, i, n, x, hn, hi, hx, hl => by
  have hn' := hn
  simp only [iD, Bool.and_eq_true, Bool.not_eq_true'] at hn
  have hm : m ∉ ns := by simpa using hn.1
  simp only [lY]
  cases i with
  | zero =>
   simp at hi hx
   subst hi
   subst hx
   rw [nP ns _ xs hm, List.getElem?_set_self hl]
  | succ i => exact vR hn.2 (by simpa using hi) (by simpa using hx) (by simpa using hl)

theorem sQ : ∀ (ns : List Nat) (l : List AVal) (s : St), ∃ l', (pK ns (.tup l) s).1 = .tup l'
 | [], l, s => ⟨l, rfl⟩
 | n :: ns, l, s => by
  simp only [pK]
  split
  ·simp only [AVal.mp]; exact sQ ns _ _
  ·exact sQ ns l s
theorem aJe (hR : Rep ρ F L s a w) {L' : Nat → Prop} {e : EK} {v v' : AVal} {u : Value} (h : bBv s e v = some v') (hv : VR ρ w F (Bx F L) v u) (hL : ∀ b, L b → L' b) (hn : ∀ n x b, v.nm = some n → ρ[n]? = some x → blk x = some b → L' b) : VR ρ w F (Bx F L') v' u ∧ ∀ n, v.nm = some n → ∃ o, s.hp[n]? = some o ∧ o.live = true := by
 have hBB : ∀ b, Bx F L b → Bx F L' b := fun b hb => hb.imp id (hL b)
 have row : ∀ (n : Nat) (ys : List e.T), v.nm = some n → (∃ (xs : List e.T), s.hp[n]? = some (.arr e xs) ∧ frzV n e xs v = .sl e ys) → v.isLeaf = true → VR ρ w F (Bx F L') (.bsl e ys) u := fun n ys hnm ⟨xs, ho, hf⟩ hl => by
  obtain ⟨base, hb, hor⟩ := hR.h.at ho
  have := aJc hb hor v u hl hv
  rw [hf] at this
  simp only [VR] at this ⊢
  exact this.mono (fun _ _ => rfl) (fun b hbb => hbb.elim .inl (fun h => .inr (hn n base b hnm hb h)))
 unfold bBv at h
 split at h
 ·rename_i k xs
  split at h
  ·cases h
   exact ⟨(VR.mono (fun _ _ h => h) (fun _ _ => rfl) (fun _ _ => rfl) (fun _ h => h) hBB).1 _ _ hv, fun n hn => by simp [AVal.nm] at hn⟩
  ·cases h
 ·rename_i c
  split at h
  ·rename_i hnil
   cases h
   refine ⟨?_, fun n hn => by simp [AVal.nm] at hn⟩
   simp only [VR] at hv ⊢
   rw [hv, cH hnil]
   exact .nil e
  ·cases h
 ·rename_i hne0 hne
  obtain ⟨ys, h1, rfl⟩ := Option.map_eq_some_iff.1 h
  unfold rowA at h1
  split at h1
  ·rename_i m
   split at h1
   ·rename_i k' xs ho
    split at h1
    ·rename_i hk
     subst hk
     cases h1
     exact ⟨row m _ rfl ⟨xs, ho, by simp [frzV]⟩ rfl, fun n hn => by cases hn; exact ⟨_, ho, rfl⟩⟩
    ·cases h1
   ·cases h1
  ·rename_i m hi
   split at h1
   ·rename_i k' xs ho
    split at h1
    ·rename_i hk
     subst hk
     cases h1
     exact ⟨row m _ rfl ⟨xs, ho, by simp [frzV]⟩ rfl, fun n hn => by cases hn; exact ⟨_, ho, rfl⟩⟩
    ·cases h1
   ·cases h1
  ·rename_i m sz lo hi
   split at h1
   ·rename_i k' xs ho
    split at h1
    ·rename_i hk
     obtain ⟨hk, hsz⟩ := hk
     subst hk
     cases h1
     exact ⟨row m _ rfl ⟨xs, ho, by simp [frzV, hsz]⟩ rfl, fun n hn => by cases hn; exact ⟨_, ho, rfl⟩⟩
    ·cases h1
   ·cases h1
  ·rename_i k' xs
   split at h1
   ·rename_i hk
    subst hk
    cases h1
    refine ⟨?_, fun n hn => by simp [AVal.nm] at hn⟩
    simp only [VR] at hv ⊢
    exact hv.mono (fun _ _ => rfl) (fun _ h => .inl h)
   ·cases h1
  ·rename_i k' xs
   split at h1
   ·rename_i hk
    subst hk
    cases h1
    refine ⟨?_, fun n hn => by simp [AVal.nm] at hn⟩
    simp only [VR] at hv ⊢
    exact hv.1.mono (fun _ _ => rfl) (fun _ h => .inl h)
   ·cases h1
  ·rename_i k' xs
   split at h1
   ·rename_i hk
    obtain ⟨hk, _⟩ := hk
    subst hk
    cases h1
    refine ⟨?_, fun n hn => by simp [AVal.nm] at hn⟩
    simp only [VR] at hv ⊢
    exact hv.mono (fun _ _ => rfl) hBB
   ·cases h1
  ·exact absurd rfl (hne _)
  ·rename_i n b0 cnt
   split at h1
   ·rename_i l ho
    obtain ⟨v', h2, h3⟩ := hR.h.at ho
    simp only [VR] at hv
    obtain ⟨b, cap, h4, rfl, h5⟩ := hv
    rw [h2] at h4
    cases h4
    obtain ⟨b', cs, ty, hb', h6, h7⟩ := h3
    cases hb'
    obtain ⟨h8, h9⟩ := kG h7 h1
    refine ⟨?_, fun m hm => by cases hm; exact ⟨_, ho, rfl⟩⟩
    simp only [VR]
    have := Rd.sl (w := w) (F := Bx F L') e ys b b0 cap (fun i => (cs.toList.drop (b0 + i * e.sz)).take e.sz) (.inr (hn n _ b rfl h2 rfl)) (by omega) (fun i hi => (h9 i hi).mono (fun _ _ => rfl) (fun _ h => .inl h)) (fun i hi => (h9 i hi).len) (fun i j u hi hj => by
     rw [List.getElem?_take] at hj
     split at hj
     ·rw [List.getElem?_drop] at hj
      simpa [World.cell?, h6] using hj
     ·cases hj)
    rwa [h8] at this
   ·cases h1
  ·cases h1
theorem nB (hR : Rep ρ F L s a w) {L' : Nat → Prop} (hL : ∀ b, L b → L' b) : ∀ {ms : List Mode} {l l' : List AVal} {vs : List Value}, sM ms l s = some l' → VRs ρ w F (Bx F L) l vs → (∀ n x b, n ∈ kJ ms l → ρ[n]? = some x → blk x = some b → L' b) →
  VRs ρ w F (Bx F L') l' vs ∧ ∀ n ∈ kJ ms l, ∃ o, s.hp[n]? = some o ∧ o.live = true
 | [], l, l', vs, h, hv, _ => by
  simp only [sM, Option.some.injEq] at h
  subst h
  exact ⟨(VR.mono (fun _ _ h => h) (fun _ _ => rfl) (fun _ _ => rfl) (fun _ h => h) (fun b hb => hb.imp id (hL b))).2 _ _ hv, fun n hn => by simp [kJ] at hn⟩
 | m :: ms, [], l', vs, h, hv, _ => by
  cases m <;> simp only [sM, Option.some.injEq] at h <;> subst h <;> cases vs <;> simp_all [VRs, kJ]
 | .lend e :: ms, v :: l, l', u :: vs, h, hv, hn => by
  simp only [sM] at h
  obtain ⟨v', h1, h⟩ := Option.bind_eq_some_iff.1 h
  obtain ⟨r, h2, rfl⟩ := Option.map_eq_some_iff.1 h
  simp only [VRs] at hv
  obtain ⟨i1, i2⟩ := aJe hR h1 hv.1 hL (fun n x b hnm => hn n x b (by simp [kJ, hnm]))
  obtain ⟨i3, i4⟩ := nB hR hL h2 hv.2 (fun n x b hnm => hn n x b (by simp [kJ, hnm]))
  refine ⟨by simp only [VRs]; exact ⟨i1, i3⟩, fun n hnm =>?_⟩
  simp only [kJ, List.mem_append, Option.mem_toList] at hnm
  exact hnm.elim (fun h => i2 n h) (i4 n)
 | .keep :: ms, v :: l, l', u :: vs, h, hv, hn => by
  simp only [sM] at h
  obtain ⟨r, h2, rfl⟩ := Option.map_eq_some_iff.1 h
  simp only [VRs] at hv
  obtain ⟨i3, i4⟩ := nB hR hL h2 hv.2 (fun n x b hnm => hn n x b (by simpa [kJ] using hnm))
  exact ⟨by simp only [VRs]; exact ⟨(VR.mono (fun _ _ h => h) (fun _ _ => rfl) (fun _ _ => rfl) (fun _ h => h) (fun b hb => hb.imp id (hL b))).1 _ _ hv.1, i3⟩, fun n hnm => i4 n (by simpa [kJ] using hnm)⟩
 | .give :: ms, v :: l, l', u :: vs, h, hv, hn => by
  simp only [sM] at h
  obtain ⟨r, h2, rfl⟩ := Option.map_eq_some_iff.1 h
  simp only [VRs] at hv
  obtain ⟨i3, i4⟩ := nB hR hL h2 hv.2 (fun n x b hnm => hn n x b (by simpa [kJ] using hnm))
  exact ⟨by simp only [VRs]; exact ⟨(VR.mono (fun _ _ h => h) (fun _ _ => rfl) (fun _ _ => rfl) (fun _ h => h) (fun b hb => hb.imp id (hL b))).1 _ _ hv.1, i3⟩, fun n hnm => i4 n (by simpa [kJ] using hnm)⟩
 | .lend _ :: _, _ :: _, _, [], _, hv, _ | .keep :: _, _ :: _, _, [], _, hv, _ | .give :: _, _ :: _, _, [], _, hv, _ => by simp [VRs] at hv
theorem VR.noB {B' : Nat → Prop} {v : AVal} {x : Value} (hl : v.isLeaf = true) (h : VR ρ w F B v x) : VR ρ w F B' (strV v) x := by
 cases v <;> simp only [AVal.isLeaf, reduceCtorEq] at hl <;> first
 |exact h
  | (simp [strV, VR]; done)
  | skip
 case dpt q e y off => cases q <;> first|exact h | simp [strV, VR]
 case dxp q e y b cnt sz i off => cases q <;> first|exact h | simp [strV, VR]
theorem aJf {v : AVal} {n : Nat} (h : v.isLeaf = true) : (v.rename n).isLeaf = true := by cases v <;> simp_all [AVal.isLeaf, AVal.rename]
theorem aWt {v : AVal} {g : Nat → Option Nat} (h : v.isLeaf = true) : (sI g v).isLeaf = true := by
 unfold sI
 split
 ·exact h
 ·split
  ·exact aJf h
  ·rfl
theorem oD {ρ' : List Value} {B' : Nat → Prop} {g : Nat → Option Nat} {v : AVal} {x : Value} (hl : v.isLeaf = true) (h : VR ρ w F B v x) (hBB : ∀ b, B b → B' b) (hg : ∀ m m' u, v.nm = some m → g m = some m' → ρ[m]? = some u → ρ'[m']? = some u) : VR ρ' w F B' (sI g v) x := by
 obtain ⟨h1, h2⟩ := VR.leaf_ren (ρ' := ρ') (w' := w) (F' := F) (B' := B') hl h (fun _ _ => rfl) (fun _ _ => rfl) (fun _ h => h) hBB
 unfold sI
 split
 ·rename_i hn
  exact h1 hn
 ·rename_i m hm
  split
  ·rename_i m' hm'
   exact h2 m m' hm (fun u hu => hg m m' u hm hm' hu)
  ·simp [VR]
theorem aJg {ρ' : List Value} {w' : World} {F' B' : Nat → Prop} {ns : List Nat} {v : AVal} {x : Value} (hl : v.isLeaf = true) (h : VR ρ w F B v x) (hF : ∀ b, F b → w'.heap[b]? = w.heap[b]?) (hB : ∀ b, B b → w'.heap[b]? = w.heap[b]?) (hFF : ∀ b, F b → F' b) (hBB : ∀ b, B b → B' b)
  (hg : ∀ m u, m ∉ ns → v.nm = some m → ρ[m]? = some u → ρ'[m]? = some u) : VR ρ' w' F' B' (aBv ns v) x := by
 obtain ⟨h1, h2⟩ := VR.leaf_ren (ρ' := ρ') (w' := w') (F' := F') (B' := B') hl h hF hB hFF hBB
 unfold aBv
 split
 ·rename_i hn
  exact h1 hn
 ·rename_i m hm
  split
  ·simp [VR]
  ·rename_i hc
   have := h2 m m hm (fun u hu => hg m u (by simpa using hc) hm hu)
   rwa [xA hm] at this
end
end Go.Ax
