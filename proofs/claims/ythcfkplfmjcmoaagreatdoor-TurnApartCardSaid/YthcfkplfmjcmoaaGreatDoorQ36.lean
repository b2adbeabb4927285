/- Merged. -/
import Derived.Test.YthcfkplfmjcmoaaGreatDoorQ24
import Derived.Test.YthcfkplfmjcmoaaGreatDoorQ17
import Derived.Laws.CopyOwn
import Derived.Deep.RegionLaw
import Derived.Test.YthcfkplfmjcmoaaGreatDoorQ18
import Derived.Test.YthcfkplfmjcmoaaGreatDoorQ34
namespace Go.Ax.Cd
open Go.RowKit Go.Proofs Go.Proofs.YthcfkplfmjcmoaaGreatDoor
theorem aIk {k : Int} (h0 : 0 ≤ k) (h1 : k < 18446744073709551616) : IntKind.u64.wrap k = k := by
 have : IntKind.u64.wrap k = k % 18446744073709551616 := by
  simp [IntKind.wrap, IntKind.signed, IntKind.bits]
 rw [this]
 omega
theorem bJj : ∀ n : _root_.Fin 65, bits BinOp.and IntKind.u64 ((n.val : Nat) : Int) 4294967295 = ((n.val : Nat) : Int) := of_decide_eq_true (by kernel_rfl)
set_option maxHeartbeats 8000000 in
set_option maxRecDepth 100000 in
theorem aNw (n : Nat) (hn : n ≤ 64) (w : World) : Calls Tryz.prog 286 #[.int .u64 1, .int .u64 n] w fun e w' => e = .returned (.tuple #[.int .u64 0, .int .u64 n]) ∧ w' = w := by
 have hb1 : bits BinOp.and IntKind.u64 1 4294967295 = 1 := by kernel_rfl
 have hbn : bits BinOp.and IntKind.u64 (n : Int) 4294967295 = n := bJj ⟨n, by omega⟩
 have hb0 : bits BinOp.and IntKind.u64 0 4294967295 = 0 := by kernel_rfl
 have hd : (n : Int) / 4294967296 = 0 := by omega
 have hw0 : IntKind.u64.wrap 0 = 0 := aIk (by omega) (by omega)
 have hwn : IntKind.u64.wrap (n : Int) = n := aIk (by omega) (by omega)
 go_enter Tryz.func286, Tryz.ntmps286
 go_wp2
 go_ret2
 exact ⟨rfl, rfl⟩
set_option maxHeartbeats 8000000 in
set_option maxRecDepth 100000 in
theorem bBd (n : Nat) (hn : n ≤ 64) (w : World) : Calls Tryz.prog 235 #[.int .u64 1, .int .u64 n] w fun e w' => e = .returned (.tuple #[.int .u64 0, .int .u64 n]) ∧ w' = w := by
 go_enter Tryz.func235, Tryz.ntmps235
 go_wp2_with fail
 refine (aNw n hn w).mono ?_
 rintro e w1 ⟨rfl, rfl⟩
 go_wp2
 go_ret2
 exact ⟨rfl, rfl⟩
def mW (v : Int) (m n : Nat) : List Value := List.replicate m (Value.int .i64 v) ++ List.replicate (n - m) (Value.int .i64 0)
theorem aNx (v : Int) {m n : Nat} (h : m ≤ n) : (mW v m n).length = n := by simp [mW]; omega
theorem aNy (v : Int) {m k n : Nat} (_h : m + k ≤ n) : (mW v m n).take m ++ List.replicate k (Value.int .i64 v) ++ (mW v m n).drop (m + k) = mW v (m + k) n := by
 unfold mW
 rw [List.take_append_of_le_length (by simp), List.take_of_length_le (by simp), List.replicate_append_replicate, List.drop_append, List.drop_of_length_le (by simp), List.nil_append]
 simp
 omega
theorem bGx {g m n k : Nat} {v : Int} {W : World} {a : Addr} {sl sc : Nat} (hn : m + k ≤ n) (hk : k = Nat.min sl (n - m)) (hW : W.heap[g]? = some (.cells (mW v m n).toArray 3 (0, 0))) (hs : ∀ j, j < k → W.cell? (a.add j) = some (.int .i64 v)) :
  ∃ W2, (Builtin.copy_ #[24, 24] 3 #[.slice (some ⟨g, m, none⟩) (n - m) (n - m), .slice (some a) sl sc]).run Tryz.prog W = .ok (.int .i64 k) W2 ∧ W2.heap[g]? = some (.cells (mW v (m + k) n).toArray 3 (0, 0)) ∧ ∀ B, B ≤ g → Below B W W2 := by
 have h := run_copy_row (P := Tryz.prog) W 24 24 3 3 g m (n - m) (n - m) a sl sc (mW v m n).toArray 3 (List.replicate k (Value.int .i64 v)) Tryz.underlying24 (by kernel_rfl) hW (by simpa using hk) (fun j u hj => by
  have hl : j < k := by simpa using (List.getElem?_eq_some_iff.1 hj).1
  rw [List.getElem?_replicate, if_pos hl] at hj
  cases hj
  exact hs j hl) (by simp [aNx v (show m ≤ n by omega)]; omega) (fun u hu => by rw [List.eq_of_mem_replicate hu]; rfl)
 refine ⟨_, h.trans (by simp [goInt]; rfl), ?_, fun B hB => below_setRow (Below.refl _ _) hB _⟩
 refine (setRow_heap W g _ _ 3 _ hW).trans ?_
 have e := aNy v hn
 simp only [List.append_assoc] at e
 rw [e]
set_option maxHeartbeats 8000000 in
set_option maxRecDepth 100000 in
theorem bBe (ad : Addr) (c0 : Nat) (v : Int) (n : Nat) (hn : n ≤ 64) (h1 : 1 ≤ n) (w : World) (hr : w.cell? ad = some (.int .i64 v)) :
  Calls Tryz.prog 186 #[.slice (some ad) 1 c0, .int .i64 n] w fun e w' => e = .returned (.slice (some ⟨w.heap.size, 0, none⟩) n n) ∧ w'.heap[w.heap.size]? = some (.cells (mW v n n).toArray 3 (0, 0)) ∧ Below w.heap.size w w' := by
 have hwn : IntKind.u64.wrap (n : Int) = n := aIk (by omega) (by omega)
 have hw1 : IntKind.u64.wrap 1 = 1 := aIk (by omega) (by omega)
 obtain ⟨ie, hie, hisz, hib⟩ : ∃ ie, (Tryz.prog : Program).info? 3 = some ie ∧ ie.zero = some (.int .i64 0) ∧ ie.bytes = 8 ∧ ie.size = 1 := ⟨((Tryz.prog : Program).info? 3).getD default, by kernel_rfl, by kernel_rfl, by kernel_rfl, by kernel_rfl⟩
 have hmk : (Instr.makeSlice 24 (.int .i64 (n : Int)) (.int .i64 (n : Int))).run Tryz.prog w = .ok (.slice (some ⟨w.heap.size, 0, none⟩) n n) (w.alloc (.cells (mW v 0 n).toArray 3)) := by
  rw [run_make (P := Tryz.prog) w 24 3 ie (.int .i64 0) Tryz.underlying24 hie hisz .i64 .i64 n n (by omega) (Int.le_refl _) (by rw [hib.1]; omega) (by omega), hib.2]
  simp only [Int.toNat_natCast, Nat.mul_one]
  have e : madeCells (Value.int .i64 0).cells n = (mW v 0 n).toArray := by
   unfold madeCells mW
   apply Array.ext
   ·simp
   ·intro i h1 h2
    simp [Value.cells, Nat.mod_one]
  rw [e]
 obtain ⟨W1, hc1, hg1, hB1⟩ := bGx (g := w.heap.size) (m := 0) (n := n) (k := 1) (v := v) (W := w.alloc (.cells (mW v 0 n).toArray 3)) (a := ad) (sl := 1) (sc := c0) (by omega) (by rw [Nat.sub_zero]; exact (Nat.min_eq_left h1).symm) (heap_alloc_new w _) (fun j hj => by
  obtain rfl : j = 0 := by omega
  have : ad.add 0 = ad := by simp [Addr.add]
  rw [this, ← hr]
  exact Below.cell ((Below.refl w.heap.size w).alloc (Nat.le_refl _) _) (World.block_lt_of_cell? w _ hr))
 have hBw : Below w.heap.size w W1 := ((Below.refl w.heap.size w).alloc (Nat.le_refl _) _).trans (hB1 w.heap.size (Nat.le_refl _))
 simp only [Nat.sub_zero] at hc1
 generalize w.alloc (.cells (mW v 0 n).toArray 3) = W0 at hmk hc1
 go_enter Tryz.func186, Tryz.ntmps186
 go_wp2_with fail
 refine (bBd n hn w).mono ?_
 rintro e w1 ⟨rfl, rfl⟩
 go_wp2_with fail
 go_loopg [8] n (fun kq v8 w' => ∃ m : Nat, 1 ≤ m ∧ m ≤ n ∧ Aside0 (m + kq = n + 1) ∧ v8 = .int .i64 m ∧ Aside0 (w'.heap[w1.heap.size]? = some (.cells (mW v m n).toArray 3 (0, 0))) ∧ Aside0 (Below w1.heap.size w1 w'))
 case atStart => exact ⟨1, Nat.le_refl _, h1, ⟨by omega⟩, rfl, ⟨hg1⟩, ⟨hBw⟩⟩
 case round =>
  obtain ⟨m, hm1, hm, HK, rfl, HG, HB⟩ := hrel
  by_cases hlt : m < n
  ·obtain ⟨k, hk⟩ : ∃ k, k = Nat.min m (n - m) := ⟨_, rfl⟩
   have hk1 : 1 ≤ k ∧ m + k ≤ n := by
    rw [hk]
    have := Nat.min_le_right m (n - m)
    have h5 : 1 ≤ Nat.min m (n - m) := Nat.le_min.2 ⟨hm1, by omega⟩
    have h6 : Nat.min m (n - m) ≤ n - m := Nat.min_le_right _ _
    omega
   have hsrc : ∀ j u, (List.replicate k (Value.int .i64 v))[j]? = some u → wr.cell? ((⟨w1.heap.size, 0, none⟩ : Addr).add j) = some u := fun j u hj => by
    have hl : j < k := by simpa using (List.getElem?_eq_some_iff.1 hj).1
    rw [List.getElem?_replicate, if_pos hl] at hj
    cases hj
    have hkm : k ≤ m := by rw [hk]; exact Nat.min_le_left _ _
    have e : (⟨w1.heap.size, 0, none⟩ : Addr).add j = ⟨w1.heap.size, j, none⟩ := by unfold Addr.add; split <;> simp_all
    rw [e]
    simp only [World.cell?, HG.out, List.getElem?_toArray]
    unfold mW
    have hjm : j < m := by omega
    rw [List.getElem?_append_left (by simpa using hjm), List.getElem?_replicate, if_pos hjm]
    rfl
   have hlen := aNx v hm
   have hkk := HK.out
   have hput := aNy v hk1.2
   have HS := Aside0.mk hsrc
   have HL := Aside0.mk hlen
   have HP := Aside0.mk hput
   have HKM := Aside0.mk hk
   clear hk hr hmk hc1 hsrc hlen hput
   go_wp2
   have h7 : (0 : Int) ≤ (m : Int) := by omega
   have h8 : (m : Int) ≤ (n : Int) := by omega
   go_region_law (refine step_copy_splice rfl (.tmp 41) (.tmp 44) 24 24 rfl 3 Tryz.underlying24 (by kernel_rfl) (if n = m then some ⟨w1.heap.size, 0, none⟩ else some ⟨w1.heap.size, m, none⟩) (some ⟨w1.heap.size, 0, none⟩) (n - m) (n - m) m n (by simp [Act.put, Act.eval]) (by simp [Act.put, Act.eval]) w1.heap.size m (mW v m n) 3 HG.out (List.replicate k (Value.int .i64 v)) (by simpa using HKM.out) (fun _ => ⟨if_neg (Nat.ne_of_gt hlt), _, rfl, HS.out⟩) (by rw [HL.out]; simpa using hk1.2) (fun u hu => by rw [List.eq_of_mem_replicate hu]; rfl) w1.heap.size w1 ⟨HB.out.os, HB.out.tape, HB.out.output, HB.out.size, HB.out.block⟩ (Nat.le_refl _) ?_; intro w4 hg4 hb4)
   have hg5 : w4.heap[w1.heap.size]? = some (.cells (splice (mW v m n) m (List.replicate k (Value.int .i64 v))).toArray 3 (0, 0)) := hg4
   have e5 : splice (mW v m n) m (List.replicate k (Value.int .i64 v)) = mW v (m + k) n := by
    unfold splice
    rw [List.length_replicate, ← List.append_assoc]
    exact HP.out
   rw [e5] at hg5
   have HG5 := Aside0.mk hg5
   have HB5 := Aside0.mk hb4
   clear hg4 hg5 hb4
   go_wp2
   go_roundg (n + 1 - (m + k))
   case measure => omega
   case rel => exact ⟨m + k, by omega, hk1.2, ⟨by omega⟩, by simp; rw [IntKind.wrap_i64]; omega, HG5, HB5⟩
  ·obtain rfl : m = n := by omega
   go_wp2
   go_ret
   exact ⟨rfl, HG.out, HB.out⟩
theorem bGy (q : Nat) (v : Int) : List.flatten (List.replicate q [v]) = List.replicate q v := by
 induction q with
 | zero => rfl
 | succ q ih => rw [List.replicate_succ, List.flatten_cons, ih]; rfl
noncomputable abbrev repE (n : Nat) (f : Func) : Fe := ⟨n, f, [.s (.e (.sl .int)), vi], [], [.s (.e (.sl .int))], []⟩
noncomputable def repN (n : Nat) (f : Func) : (repE n f).T := fun x => bif decide (x.1.1.length = 1) && decide (1 ≤ x.1.2.1) && decide (x.1.2.1 ≤ 64) then some ((List.flatten (List.replicate x.1.2.1.toNat x.1.1), ()), ()) else none
theorem bNj (f : Func) : aK Tryz.prog gl 186 (Con.of [.s (.e (.sl .int)), vi] [] [.s (.e (.sl .int))] [] (repN 186 f)) := by
 rintro av h ⟨⟨(l : List Int), (m : Int), _⟩, _⟩ y hd hy ρ F L w us hR hv hg
 obtain ⟨x1, h1, hd⟩ := Option.bind_eq_some_iff.1 hd
 obtain ⟨x2, h2, hd⟩ := Option.bind_eq_some_iff.1 hd
 cases hd
 obtain rfl := sE h2
 have hvs := VhL.sound h1 hv
 obtain ⟨us, rfl⟩ : ∃ u : List Value, us = u.toArray := ⟨us.toList, by simp⟩
 have hl := hvs.length
 match us, hl, hvs with
 | [u0, u1], _, hvs =>
  have hvs' : VRs ρ w F (Bx F L) [.sl .int l, .int m] [u0, u1] := hvs
  simp only [VRs, VR, and_true] at hvs'
  obtain ⟨hr, rfl⟩ := hvs'
  obtain ⟨A, cap, rfl, hcap, hRI⟩ := RI.of hr
  have hy2 : (bif decide (l.length = 1) && decide (1 ≤ m) && decide (m ≤ 64) then some ((List.flatten (List.replicate m.toNat l), ()), ()) else none) = some y := hy
  cases e : (decide (l.length = 1) && decide (1 ≤ m) && decide (m ≤ 64)) with
  | false => rw [e] at hy2; cases hy2
  | true =>
   rw [e] at hy2
   cases hy2
   simp only [Bool.and_eq_true, decide_eq_true_eq] at e
   obtain ⟨⟨e1, e2⟩, e3⟩ := e
   obtain ⟨v, rfl⟩ := List.length_eq_one_iff.1 e1
   obtain ⟨q, rfl⟩ : ∃ q : Nat, m = q := ⟨m.toNat, by omega⟩
   obtain ⟨ad, rfl, hc⟩ := hRI 0 (by simp)
   have h0 : ad.add 0 = ad := by simp [Addr.add]
   rw [h0] at hc
   refine (bBe ad cap v q (by omega) (by omega) w hc).mono ?_
   rintro e w' ⟨rfl, hblk, hb⟩
   have hlt := (Array.getElem?_eq_some_iff.1 hblk).1
   obtain ⟨k3, k4⟩ := wI (N := fun b => b = w.heap.size) hR hb (fun b hb => by subst hb; exact ⟨Nat.le_refl _, hlt⟩)
   refine ⟨ρ, _, ⟨_, rfl, ?_⟩, k3, k4, .refl _, fun i hi => nomatch hi⟩
   have hfl : List.flatten (List.replicate (q : Int).toNat [v]) = List.replicate q v := by
    rw [Int.toNat_natCast, bGy]
   show Rd w' _ (.sl .int) (List.flatten (List.replicate (q : Int).toNat [v])) [.slice (some ⟨w.heap.size, 0, none⟩) q q]
   rw [hfl]
   have e5 : q = (List.replicate q v).length := by simp
   have key := Rd.sl (w := w') (F := fun b => F b ∨ b = w.heap.size) .int (List.replicate q v) w.heap.size 0 q (fun _ => [.int .i64 v]) (.inr rfl) (by simp) (fun i hi => by rw [List.getElem_replicate]; exact .int v) (fun _ _ => rfl) (fun i j u hi hj => by
    rw [List.length_replicate] at hi
    rcases j with _ | j
    ·simp only [List.getElem?_cons_zero, Option.some.injEq] at hj
     subst hj
     simp only [EK.sz, Nat.zero_add, Nat.mul_one, Nat.add_zero, World.cell?, hblk, List.getElem?_toArray]
     unfold mW
     rw [List.getElem?_append_left (by simpa using hi), List.getElem?_replicate, if_pos hi]
     rfl
    ·simp at hj)
   rw [List.length_replicate] at key
   exact key
 | [], hl, _ => simp [VhL.enc] at hl
 | [_], hl, _ => simp [VhL.enc] at hl
 | _ :: _ :: _ :: _, hl, _ => simp [VhL.enc] at hl
theorem bNk : (repE 186 Tryz.f186).Ok (repN 186 Tryz.f186) := ⟨⟨Tryz.f186, body Tryz.f186, by kernel_rfl, by kernel_rfl, by kernel_rfl⟩, bNj _⟩
open Go.Proofs
set_option linter.unusedVariables false
set_option maxRecDepth 100000
noncomputable abbrev repIE : Fe := repE 186 Tryz.f186
noncomputable abbrev repIN : repIE.T := repN 186 Tryz.f186
theorem repI_ok : repIE.Ok repIN := bNk
noncomputable abbrev eraNewE : Fe := ⟨135, Tryz.f135, [vi], [], [.s (.e (.st .era)), vi], []⟩
noncomputable def aBa (p0 : repIE.T) (threads : Int) : Option eraNewE.Y := bif decide (threads < 1) then some ((Era.mk 0 [], 1, ()), ()) else bif decide (threads > 64) then some ((Era.mk 0 [], 1, ()), ()) else (p0 (([-1], threads, ()), ())).bind fun z => some ((Era.mk 0 z.1.1, 0, ()), ())
noncomputable def eraNewN : eraNewE.T := eraNewE.un (aBa repIN)
theorem aTt (p0 : repIE.T) (x) : eraNewE.run [repIE.on p0] [] [] x = eraNewE.un (aBa p0) x := by kernel_rfl
theorem eraNew_ok : eraNewE.Ok eraNewN := Fe.k (by kernel_rfl) (repI_ok.k g0) (aA (by kernel_rfl)) (aTt repIN)
noncomputable abbrev arnNewE : Fe := ⟨93, Tryz.f93, [.s (.e (.st .cfg)), vi], [], [.s (.e (.st .shr)), vi], []⟩
noncomputable def aBb (p0 : plcChkE.T) (p1 : polNewE.T) (p2 : eraNewE.T) (c : Cfg) (threads : Int) : Option arnNewE.Y := (p0 ((c, ()), ())).bind fun z => bif z.1.1 != 0 then some ((Shr.mk [] [] (Pool.mk [] [] [] []) (Pool.mk [] [] [] []) (Pool.mk [] [] [] []) (Era.mk 0 []), z.1.1, ()), ()) else (p2 ((threads, ()), ())).bind fun z => bif z.1.2.1 != 0 then some ((Shr.mk [] [] (Pool.mk [] [] [] []) (Pool.mk [] [] [] []) (Pool.mk [] [] [] []) (Era.mk 0 []), z.1.2.1, ()), ()) else (p1 ((c.nodes, ()), ())).bind fun z1 => bif z1.1.2.1 != 0 then some ((Shr.mk [] [] (Pool.mk [] [] [] []) (Pool.mk [] [] [] []) (Pool.mk [] [] [] []) (Era.mk 0 []), z1.1.2.1, ()), ()) else (p1 ((c.edges, ()), ())).bind fun z2 => bif z2.1.2.1 != 0 then some ((Shr.mk [] [] (Pool.mk [] [] [] []) (Pool.mk [] [] [] []) (Pool.mk [] [] [] []) (Era.mk 0 []), z2.1.2.1, ()), ()) else (p1 ((c.props, ()), ())).bind fun z3 => bif z3.1.2.1 != 0 then some ((Shr.mk [] [] (Pool.mk [] [] [] []) (Pool.mk [] [] [] []) (Pool.mk [] [] [] []) (Era.mk 0 []), z3.1.2.1, ()), ()) else some ((Shr.mk [] [] z1.1.1 z2.1.1 z3.1.1 z.1.1, 0, ()), ())
noncomputable def arnNewN : arnNewE.T := arnNewE.un (aBb plcChkN polNewN eraNewN)
theorem aTu (p0 : plcChkE.T) (p1 : polNewE.T) (p2 : eraNewE.T) (x) : arnNewE.run [plcChkE.on p0, polNewE.on p1, eraNewE.on p2] [] [] x = arnNewE.un (aBb p0 p1 p2) x := by kernel_rfl
theorem arnNew_ok : arnNewE.Ok arnNewN := Fe.k (by kernel_rfl) (plcChk_ok.k (polNew_ok.k (eraNew_ok.k g0))) (bD (by kernel_rfl) (lsz (f := Tryz.f93) (i := 0) (by kernel_rfl) lsn)) (aTu plcChkN polNewN eraNewN)
noncomputable abbrev askNewE : Fe := ⟨56, Tryz.f56, [.s (.e (.st .cfg)), vi], [], [.s (.e (.st .shr)), vi], []⟩
noncomputable def aBc (p0 : plcNewE.T) (p1 : arnNewE.T) (c : Cfg) (threads : Int) : Option askNewE.Y := (p1 ((c, threads, ()), ())).bind fun z => bif z.1.2.1 != 0 then some ((Shr.mk [] [] (Pool.mk [] [] [] []) (Pool.mk [] [] [] []) (Pool.mk [] [] [] []) (Era.mk 0 []), z.1.2.1, ()), ()) else (p0 ((c, ()), ())).bind fun z1 => bif z1.1.2.1 != 0 then some ((Shr.mk [] [] (Pool.mk [] [] [] []) (Pool.mk [] [] [] []) (Pool.mk [] [] [] []) (Era.mk 0 []), z1.1.2.1, ()), ()) else bif decide (0 ≤ w64 (c.ids + 1)) && decide (w64 (c.ids + 1) ≤ 1000000000) then some ((Shr.mk z1.1.1 (List.replicate (w64 (c.ids + 1)).toNat (0 : Int)) z.1.1.p0 z.1.1.p1 z.1.1.p2 z.1.1.era, 0, ()), ()) else none
noncomputable def askNewN : askNewE.T := askNewE.un (aBc plcNewN arnNewN)
theorem aTv (p0 : plcNewE.T) (p1 : arnNewE.T) (x) : askNewE.run [plcNewE.on p0, arnNewE.on p1] [] [] x = askNewE.un (aBc p0 p1) x := by kernel_rfl
theorem askNew_ok : askNewE.Ok askNewN := Fe.k (by kernel_rfl) (plcNew_ok.k (arnNew_ok.k g0)) (aA (by kernel_rfl)) (aTv plcNewN arnNewN)
noncomputable abbrev linPlnE : Fe := ⟨104, Tryz.f104, [.s (.e (.st .opn))], [], [.s (.e (.st .opn)), vb], []⟩
noncomputable def rB (o : Opn) : Option linPlnE.Y := bif o.kind == 1 then some ((Opn.mk o.kind 0 0 0 0, true, ()), ()) else bif o.kind == 2 then some ((Opn.mk o.kind o.a o.b 0 0, true, ()), ()) else bif o.kind == 9 then some ((Opn.mk o.kind o.a o.b 0 0, true, ()), ()) else bif o.kind == 4 then some ((Opn.mk o.kind o.a 0 o.k o.v, true, ()), ()) else bif o.kind == 5 then some ((Opn.mk o.kind o.a 0 o.k 0, true, ()), ()) else bif o.kind == 3 then some ((Opn.mk o.kind o.a 0 0 0, true, ()), ()) else bif o.kind == 6 then some ((Opn.mk o.kind o.a 0 0 0, true, ()), ()) else bif o.kind == 7 then some ((Opn.mk o.kind o.a 0 0 0, true, ()), ()) else bif o.kind == 8 then some ((Opn.mk o.kind o.a 0 0 0, true, ()), ()) else some ((Opn.mk 0 0 0 0 0, false, ()), ())
noncomputable def linPlnN : linPlnE.T := linPlnE.un rB
theorem aTw (x) : linPlnE.run [] [] [] x = linPlnE.un (rB) x := by kernel_rfl
theorem linPln_ok : linPlnE.Ok linPlnN := Fe.k (by kernel_rfl) g0 (aA (by kernel_rfl)) (aTw)
noncomputable abbrev linOpE : Fe := ⟨103, Tryz.f103, [.s (.e (.sl .int))], [], [.s (.e (.st .opn)), vb], []⟩
noncomputable def aIl (p0 : linPlnE.T) (l : List Int) : Option linOpE.Y := bif Int.ofNat l.length != 5 then some ((Opn.mk 0 0 0 0 0, false, ()), ()) else bif inR 0 l.length then bif inR 1 l.length then bif inR 2 l.length then bif inR 3 l.length then bif inR 4 l.length then (p0 ((Opn.mk (rdE EK.int l 0) (rdE EK.int l 1) (rdE EK.int l 2) (rdE EK.int l 3) (rdE EK.int l 4), ()), ())).bind fun z => some (z.1, ()) else none else none else none else none else none
noncomputable def linOpN : linOpE.T := linOpE.un (aIl linPlnN)
theorem bBf (p0 : linPlnE.T) (x) : linOpE.run [linPlnE.on p0] [] [] x = linOpE.un (aIl p0) x := by kernel_rfl
theorem linOp_ok : linOpE.Ok linOpN := Fe.k (by kernel_rfl) (linPln_ok.k g0) (aA (by kernel_rfl)) (bBf linPlnN)
noncomputable abbrev linWriL0E : Le := ⟨0, Tryz.f70, 0, [3, 8, 9, 10], [.s (.own 0), .s (.e (.sl (.st .opn))), vi, vi], [.arr .int], (Fin.one 0 Tryz.f70.ntmps (.exit 0) [3] [.s (.own 0)] [.arr .int])⟩
noncomputable def jZ (p0 : linPlnE.T) (v1 : List Opn) (v2 v3 : Int) (v4 : List Int) : Option (linWriL0E.X ⊕ linWriL0E.fin.Y) := bif decide (v3 < v2) then bif inR v3 v1.length then (p0 ((rdE (EK.st SN.opn) v1 v3, ()), ())).bind fun z => bif z.1.2.1 then bif decide (v4.length + [z.1.1.kind, z.1.1.a, z.1.1.b, z.1.1.k, z.1.1.v].length ≤ 1000000000) then some (Sum.inl (((), v1, v2, w64 (v3 + 1), ()), v4 ++ [z.1.1.kind, z.1.1.a, z.1.1.b, z.1.1.k, z.1.1.v], ())) else none else some (Sum.inl (((), v1, v2, w64 (v3 + 1), ()), v4, ())) else none else some (Sum.inr (((), ()), v4, ()))
noncomputable def linWriL0N : linWriL0E.T := linWriL0E.lp (linWriL0E.un (jZ linPlnN))
theorem aIm (p0 : linPlnE.T) (x) : linWriL0E.run [linPlnE.on p0] [] [(1, [(3, none, .int)])] x = linWriL0E.un (jZ p0) x := by kernel_rfl
theorem aNz : linWriL0E.Ok linWriL0N := Le.k f1 (linPln_ok.k g0) (aA (by kernel_rfl)) (aIm linPlnN)
noncomputable abbrev linWriE : Fe := ⟨70, Tryz.f70, [.s (.e (.sl (.st .opn)))], [], [.s (.e (.sl .int))], []⟩
noncomputable def aBd (p0 : linPlnE.T) (p1 : linWriL0E.T) (l : List Opn) : Option linWriE.Y := (p1 (((), l, Int.ofNat l.length, 0, ()), [], ())).bind fun z => some ((z.2.1, ()), ())
noncomputable def linWriN : linWriE.T := linWriE.un (aBd linPlnN linWriL0N)
theorem aTx (p0 : linPlnE.T) (p1 : linWriL0E.T) (x) : linWriE.run [linPlnE.on p0] [(3, linWriL0E.on p1)] [(1, [(3, none, .int)])] x = linWriE.un (aBd p0 p1) x := by kernel_rfl
theorem linWri_ok : linWriE.Ok linWriN := Fe.k (by kernel_rfl) (linPln_ok.k g0) (bD (by kernel_rfl) (lsc (by kernel_rfl) aNz rfl lsn)) (aTx linPlnN linWriL0N)
end Go.Ax.Cd
