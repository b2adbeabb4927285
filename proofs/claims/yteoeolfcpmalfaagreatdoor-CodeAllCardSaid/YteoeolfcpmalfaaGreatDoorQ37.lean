/- Merged. -/
import Derived.Test.YteoeolfcpmalfaaGreatDoorQ36
import Derived.KernelRfl
import Derived.Test.YteoeolfcpmalfaaGreatDoorQ35
namespace Go.Ax.Cd
theorem live_ok : liveFTr.val = some true := by kernel_rfl
theorem go_ok {c : Cfg} {o : Opn} {got : List Int} {r : Res} {d : List Acc} (h : (runTr c o got).exec got [] = .ok r d) : goTr c o got = .ret (d, r, true) := by
 unfold goTr
 rw [h]
theorem go_stop {c : Cfg} {o : Opn} {got : List Int} {d : List Acc} (h : (runTr c o got).exec got [] = .stop d) : goTr c o got = .ret (d, rz, false) := by
 unfold goTr
 rw [h]
theorem samePr_refl (a : List Pr) (h : a.length ≤ 1000) : samePrTr a a = .ret true := by
 have key : ∀ (j i f : Nat), i + j = a.length → j < f → T.loop (samePrL0Step a a (Int.ofNat a.length)) f (i : Int) = .ret (.inl ()) := by
  intro j
  induction j with
  | zero =>
   intro i f hi hf
   obtain ⟨f, rfl⟩ : ∃ q, f = q + 1 := ⟨f - 1, by omega⟩
   rw [T.loop]
   unfold samePrL0Step
   dsimp only
   rw [decide_eq_false (by simp; omega), cond_false]
   rfl
  | succ j ih =>
   intro i f hi hf
   obtain ⟨f, rfl⟩ : ∃ q, f = q + 1 := ⟨f - 1, by omega⟩
   have e1 : inR (i : Int) a.length = true := by simp [inR]; omega
   have e2 : w64 ((i : Int) + 1) = ((i + 1 : Nat) : Int) := by rw [w64_id] <;> omega
   have es : samePrL0Step a a (Int.ofNat a.length) (i : Int) = .ret (.inl ((i + 1 : Nat) : Int)) := by
    unfold samePrL0Step
    dsimp only
    rw [decide_eq_true (by simp; omega), cond_true, e1, cond_true, cond_true, e2]
    simp only [beq_self_eq_true, Bool.and_true, Bool.not_true, cond_false]
   rw [T.loop, es]
   exact ih (i + 1) f (by omega) (by omega)
 unfold samePrTr
 have e := key a.length 0 4611686018427387904 (by omega) (by omega)
 rw [show ((0 : Nat) : Int) = 0 from rfl] at e
 rw [e]
 simp [T.bind, selim]
theorem sameEn_refl (a : List En) (h : a.length ≤ 1000) : sameEnTr a a = .ret true := by
 have key : ∀ (j i f : Nat), i + j = a.length → j < f → T.loop (sameEnL0Step a a (Int.ofNat a.length)) f (i : Int) = .ret (.inl ()) := by
  intro j
  induction j with
  | zero =>
   intro i f hi hf
   obtain ⟨f, rfl⟩ : ∃ q, f = q + 1 := ⟨f - 1, by omega⟩
   rw [T.loop]
   unfold sameEnL0Step
   dsimp only
   rw [decide_eq_false (by simp; omega), cond_false]
   rfl
  | succ j ih =>
   intro i f hi hf
   obtain ⟨f, rfl⟩ : ∃ q, f = q + 1 := ⟨f - 1, by omega⟩
   have e1 : inR (i : Int) a.length = true := by simp [inR]; omega
   have e2 : w64 ((i : Int) + 1) = ((i + 1 : Nat) : Int) := by rw [w64_id] <;> omega
   have es : sameEnL0Step a a (Int.ofNat a.length) (i : Int) = .ret (.inl ((i + 1 : Nat) : Int)) := by
    unfold sameEnL0Step
    dsimp only
    rw [decide_eq_true (by simp; omega), cond_true, e1, cond_true, cond_true, e2]
    simp only [beq_self_eq_true, Bool.and_true, Bool.not_true, cond_false]
   rw [T.loop, es]
   exact ih (i + 1) f (by omega) (by omega)
 unfold sameEnTr
 have e := key a.length 0 4611686018427387904 (by omega) (by omega)
 rw [show ((0 : Nat) : Int) = 0 from rfl] at e
 rw [e]
 simp [T.bind, selim]
theorem sameRes_refl {r : Res} (h : Sm r) : sameResTr r r = .ret true := by
 unfold sameResTr
 rw [samePr_refl _ h.1, sameEn_refl _ h.2.1, sameEn_refl _ h.2.2]
 simp [T.bind]
theorem may_ok (c : Cfg) (got : List Int) : ∃ b, mayFTr c got = .ret b ∧ (b = true → got.length ≤ 200) := by
 have key : ∀ {x : Bool} {t : T Bool}, (∃ b, t = .ret b ∧ (b = true → got.length ≤ 200)) → ∃ b, (bif x then t else .ret false) = .ret b ∧ (b = true → got.length ≤ 200) := fun {x t} h => by
  cases x with
  | true => exact h
  | false => exact ⟨false, rfl, fun h => by cases h⟩
 unfold mayFTr
 refine key (key (key (key (key (key (key (key (key (key ⟨_, rfl, fun h =>?_⟩)))))))))
 have := of_decide_eq_true h
 simp at this
 omega
set_option linter.unusedVariables false
theorem all_ok {c : Cfg} {o : Opn} {got : List Int} {x : List Acc × Res × Bool} (h : goTr c o got = .ret x) : all_Tr c o got = .ret x.1 := by
 unfold all_Tr
 rw [h]
 rfl
theorem next_okT {c : Cfg} {o : Opn} {got : List Int} {d : List Acc} {r : Res} (h : goTr c o got = .ret (d, r, true)) : next_Tr c o got = .ret (⟨0, 0, 0, 0, 0, 0⟩, r, true) := by
 unfold next_Tr
 rw [h]
 rfl
theorem next_okF {c : Cfg} {o : Opn} {got : List Int} {d : List Acc} (h : goTr c o got = .ret (d, rz, false)) (h0 : 0 < d.length) (h1 : d.length ≤ 2000) : next_Tr c o got = .ret (rdE (EK.st SN.acc) d ((d.length - 1 : Nat) : Int), rz, false) := by
 unfold next_Tr
 rw [h]
 have e1 : w64 (Int.ofNat d.length - 1) = ((d.length - 1 : Nat) : Int) := by
  rw [show Int.ofNat d.length - 1 = ((d.length - 1 : Nat) : Int) by simp; omega]
  rw [w64_id] <;> omega
 have e2 : inR ((d.length - 1 : Nat) : Int) d.length = true := by simp [inR]; omega
 simp only [T.bind, cond_false, e1, e2, cond_true]
open Go.Proofs
set_option maxRecDepth 100000
noncomputable abbrev lawNextE : Fe := ⟨3, Tryz.f3, [.s (.e (.st .cfg)), .s (.e (.st .opn)), .s (.e (.sl .int))], [], [vb], []⟩
noncomputable def lawNextB (p0 : VhL [.s (.e (.st .cfg)), .s (.e (.st .opn)), .s (.e (.sl .int))] × OShL [] → Option (VhL [.s (.e (.st .acc)), .s (.e (.st .res)), vb] × OShL [])) (p1 : VhL [.s (.e (.st .cfg)), .s (.e (.sl .int))] × OShL [] → Option (VhL [vb] × OShL [])) (p2 : VhL [] × OShL [] → Option (VhL [vb] × OShL [])) (p3 : VhL [.s (.e (.st .res)), .s (.e (.st .res))] × OShL [] → Option (VhL [vb] × OShL [])) (p4 : pNextE.T) (c : Cfg) (o : Opn) (got : List Int) : Option lawNextE.Y := (p2 ((), ())).bind fun z => bif !z.1.1 then some ((false, ()), ()) else (p1 ((c, got, ()), ())).bind fun z => bif !z.1.1 then some ((true, ()), ()) else (p0 ((c, o, got, ()), ())).bind fun z => (p4 ((c, o, got, ()), ())).bind fun z1 => bif z.1.1.kind == z1.1.1.kind && (z.1.1.at_ == z1.1.1.at_ && (z.1.1.which == z1.1.1.which && (z.1.1.ref == z1.1.1.ref && (z.1.1.field == z1.1.1.field && (z.1.1.value == z1.1.1.value && true))))) then (p3 ((z.1.2.1, z1.1.2.1, ()), ())).bind fun z2 => bif z2.1.1 then some ((z.1.2.2.1 == z1.1.2.2.1, ()), ()) else some ((false, ()), ()) else some ((false, ()), ())
noncomputable def lawNextN : lawNextE.T := lawNextE.un (lawNextB (PIf.spec next_I) (PIf.spec mayFI) (PIf.spec liveFI) (PIf.spec sameResI) pNextN)
theorem lawNext_raw (p0 : VhL [.s (.e (.st .cfg)), .s (.e (.st .opn)), .s (.e (.sl .int))] × OShL [] → Option (VhL [.s (.e (.st .acc)), .s (.e (.st .res)), vb] × OShL [])) (p1 : VhL [.s (.e (.st .cfg)), .s (.e (.sl .int))] × OShL [] → Option (VhL [vb] × OShL [])) (p2 : VhL [] × OShL [] → Option (VhL [vb] × OShL [])) (p3 : VhL [.s (.e (.st .res)), .s (.e (.st .res))] × OShL [] → Option (VhL [vb] × OShL [])) (p4 : pNextE.T) (x) : lawNextE.run [(12, Con.of [.s (.e (.st .cfg)), .s (.e (.st .opn)), .s (.e (.sl .int))] [] [.s (.e (.st .acc)), .s (.e (.st .res)), vb] [] p0), (11, Con.of [.s (.e (.st .cfg)), .s (.e (.sl .int))] [] [vb] [] p1), (10, Con.of [] [] [vb] [] p2), (14, Con.of [.s (.e (.st .res)), .s (.e (.st .res))] [] [vb] [] p3), pNextE.on p4] [] [] x = lawNextE.un (lawNextB p0 p1 p2 p3 p4) x := by kernel_rfl
theorem lawNext_ok : lawNextE.Ok lawNextN := Fe.k (by kernel_rfl) (GOk.cons ⟨Tryz.f12, body Tryz.f12, by kernel_rfl, by kernel_rfl, by kernel_rfl⟩ next__ok (GOk.cons ⟨Tryz.f11, body Tryz.f11, by kernel_rfl, by kernel_rfl, by kernel_rfl⟩ mayF_ok (GOk.cons ⟨Tryz.f10, body Tryz.f10, by kernel_rfl, by kernel_rfl, by kernel_rfl⟩ liveF_ok (GOk.cons ⟨Tryz.f14, body Tryz.f14, by kernel_rfl, by kernel_rfl, by kernel_rfl⟩ sameRes_ok (pNext_ok.k g0))))) (noloopN (by kernel_rfl)) (lawNext_raw (PIf.spec next_I) (PIf.spec mayFI) (PIf.spec liveFI) (PIf.spec sameResI) pNextN)
noncomputable abbrev lawAllE : Fe := ⟨4, Tryz.f4, [.s (.e (.st .cfg)), .s (.e (.st .opn)), .s (.e (.sl .int))], [], [vb], []⟩
noncomputable def lawAllB (p0 : VhL [.s (.e (.st .cfg)), .s (.e (.st .opn)), .s (.e (.sl .int))] × OShL [] → Option (VhL [.s (.e (.sl (.st .acc)))] × OShL [])) (p1 : VhL [.s (.e (.st .cfg)), .s (.e (.sl .int))] × OShL [] → Option (VhL [vb] × OShL [])) (p2 : VhL [] × OShL [] → Option (VhL [vb] × OShL [])) (p3 : pAllE.T) (p4 : pSameAllE.T) (c : Cfg) (o : Opn) (got : List Int) : Option lawAllE.Y := (p2 ((), ())).bind fun z => bif !z.1.1 then some ((false, ()), ()) else (p1 ((c, got, ()), ())).bind fun z => bif !z.1.1 then some ((true, ()), ()) else (p0 ((c, o, got, ()), ())).bind fun z => (p3 ((c, o, got, ()), ())).bind fun z1 => (p4 ((z.1.1, z1.1.1, ()), ())).bind fun z => some ((z.1.1, ()), ())
noncomputable def lawAllN : lawAllE.T := lawAllE.un (lawAllB (PIf.spec all_I) (PIf.spec mayFI) (PIf.spec liveFI) pAllN pSameAllN)
theorem lawAll_raw (p0 : VhL [.s (.e (.st .cfg)), .s (.e (.st .opn)), .s (.e (.sl .int))] × OShL [] → Option (VhL [.s (.e (.sl (.st .acc)))] × OShL [])) (p1 : VhL [.s (.e (.st .cfg)), .s (.e (.sl .int))] × OShL [] → Option (VhL [vb] × OShL [])) (p2 : VhL [] × OShL [] → Option (VhL [vb] × OShL [])) (p3 : pAllE.T) (p4 : pSameAllE.T) (x) : lawAllE.run [(16, Con.of [.s (.e (.st .cfg)), .s (.e (.st .opn)), .s (.e (.sl .int))] [] [.s (.e (.sl (.st .acc)))] [] p0), (11, Con.of [.s (.e (.st .cfg)), .s (.e (.sl .int))] [] [vb] [] p1), (10, Con.of [] [] [vb] [] p2), pAllE.on p3, pSameAllE.on p4] [] [] x = lawAllE.un (lawAllB p0 p1 p2 p3 p4) x := by kernel_rfl
theorem lawAll_ok : lawAllE.Ok lawAllN := Fe.k (by kernel_rfl) (GOk.cons ⟨Tryz.f16, body Tryz.f16, by kernel_rfl, by kernel_rfl, by kernel_rfl⟩ all__ok (GOk.cons ⟨Tryz.f11, body Tryz.f11, by kernel_rfl, by kernel_rfl, by kernel_rfl⟩ mayF_ok (GOk.cons ⟨Tryz.f10, body Tryz.f10, by kernel_rfl, by kernel_rfl, by kernel_rfl⟩ liveF_ok (pAll_ok.k (pSameAll_ok.k g0))))) (noloopN (by kernel_rfl)) (lawAll_raw (PIf.spec all_I) (PIf.spec mayFI) (PIf.spec liveFI) pAllN pSameAllN)
theorem run_or {c : Cfg} {o : Opn} {got : List Int} (hN : got.length ≤ 1000) (hx : ∀ x ∈ got, In64 x) (ha : In64 o.a) (hb : In64 o.b) :
  (∃ r d, (runTr c o got).exec got [] = .ok r d ∧ d.length ≤ got.length ∧ Sm r) ∨ (∃ d, (runTr c o got).exec got [] = .stop d ∧ d.length = got.length + 1) := by
 rcases run_exec (c := c) (ro := false) rfl hN hx ha hb (fun _ => rfl) with ⟨r, d, b, h1, h2, h3, h4⟩ | ⟨d, s', h1, h2, h3⟩
 ·exact .inl ⟨r, d, h1, h3, h4⟩
 ·exact .inr ⟨d, h1, h3⟩
theorem live_sp : PIf.spec liveFI ((), ()) = some ((true, ()), ()) := by
 show (liveFTr.val).map _ = _
 rw [live_ok]
 rfl
theorem may_sp (c : Cfg) (got : List Int) : ∃ b, PIf.spec mayFI ((c, got, ()), ()) = some ((b, ()), ()) ∧ (b = true → got.length ≤ 200) := by
 obtain ⟨b, h1, h2⟩ := may_ok c got
 refine ⟨b, ?_, h2⟩
 show ((mayFTr c got).val).map _ = _
 rw [h1]
 rfl
theorem sameRes_sp {r : Res} (h : Sm r) : PIf.spec sameResI ((r, r, ()), ()) = some ((true, ()), ()) := by
 show ((sameResTr r r).val).map _ = _
 rw [sameRes_refl h]
 rfl
section
variable {c : Cfg} {o : Opn} {got : List Int} (hN : got.length ≤ 1000)
include hN
theorem ref_ok {r : Res} {d : List Acc} (h : (runTr c o got).exec got [] = .ok r d) : pRunN ((c, o, got, ()), ()) = some (((), ()), (c, got, (), [], true, r, ()), d, ()) := by
 haveI : Bd got := ⟨by omega⟩
 have h1 := pRun_sim (c := c) (o := o) (got := got) (by omega)
 rw [h] at h1
 obtain ⟨z, hz, rfl⟩ := h1
 exact hz
theorem ref_stop {d : List Acc} (h : (runTr c o got).exec got [] = .stop d) : ∃ (hd : List Int) (r : Res), pRunN ((c, o, got, ()), ()) = some (((), ()), (c, got, (), hd, false, r, ()), d, ()) := by
 haveI : Bd got := ⟨by omega⟩
 have h1 := pRun_sim (c := c) (o := o) (got := got) (by omega)
 rw [h] at h1
 obtain ⟨⟨⟨_, _⟩, p, dd, _⟩, hz, hd, r, hh, e⟩ := h1
 cases e
 exact ⟨hd, r, hz⟩
theorem nxt_ok {r : Res} {d : List Acc} (h : (runTr c o got).exec got [] = .ok r d) : PIf.spec next_I ((c, o, got, ()), ()) = some ((Acc.mk 0 0 0 0 0 0, r, true, ()), ()) ∧ pNextN ((c, o, got, ()), ()) = some ((Acc.mk 0 0 0 0 0 0, r, true, ()), ()) := by
 constructor
 ·show ((next_Tr c o got).val).map _ = _
  rw [next_okT (go_ok h)]
  rfl
 ·show (pRunN ((c, o, got, ()), ())).bind _ = _
  rw [ref_ok hN h]
  rfl
theorem nxt_stop {d : List Acc} (h : (runTr c o got).exec got [] = .stop d) (hd : d.length = got.length + 1) : ∃ a, PIf.spec next_I ((c, o, got, ()), ()) = some ((a, rz, false, ()), ()) ∧ pNextN ((c, o, got, ()), ()) = some ((a, rz, false, ()), ()) := by
 refine ⟨rdE (EK.st SN.acc) d ((d.length - 1 : Nat) : Int), ?_, ?_⟩
 ·show ((next_Tr c o got).val).map _ = _
  rw [next_okF (go_stop h) (by omega) (by omega)]
  rfl
 ·show (pRunN ((c, o, got, ()), ())).bind _ = _
  obtain ⟨hd', r, hr⟩ := ref_stop hN h
  rw [hr]
  have e1 : w64 (Int.ofNat d.length - 1) = ((d.length - 1 : Nat) : Int) := by
   rw [w64_id (by simp; omega) (by simp; omega)]
   simp; omega
  show (bif inR (w64 (Int.ofNat d.length - 1)) d.length then some ((rdE (EK.st SN.acc) d (w64 (Int.ofNat d.length - 1)), rz, false, ()), ()) else none) = _
  rw [e1, inR_ge (by omega)]
  rfl
end
theorem acc_same (a : Acc) : (a.kind == a.kind && (a.at_ == a.at_ && (a.which == a.which && (a.ref == a.ref && (a.field == a.field && (a.value == a.value && true)))))) = true := by simp
theorem lawNext_true {c : Cfg} {o : Opn} {got : List Int} (hx : ∀ x ∈ got, In64 x) (ha : In64 o.a) (hb : In64 o.b) : lawNextN ((c, o, got, ()), ()) = some ((true, ()), ()) := by
 show (PIf.spec liveFI ((), ())).bind _ = _
 rw [live_sp]
 show (PIf.spec mayFI ((c, got, ()), ())).bind _ = _
 obtain ⟨b, hm, h200⟩ := may_sp c got
 rw [hm]
 cases b with
 | false => rfl
 | true =>
  have hN := h200 rfl
  show (PIf.spec next_I ((c, o, got, ()), ())).bind _ = _
  rcases run_or (c := c) (by omega) hx ha hb with ⟨r, d, h1, h2, h3⟩ | ⟨d, h1, h2⟩
  ·obtain ⟨k1, k2⟩ := nxt_ok (by omega) h1
   rw [k1]
   show (pNextN ((c, o, got, ()), ())).bind _ = _
   rw [k2]
   show (PIf.spec sameResI ((r, r, ()), ())).bind _ = _
   rw [sameRes_sp h3]
   rfl
  ·obtain ⟨a, k1, k2⟩ := nxt_stop (by omega) h1 h2
   rw [k1]
   show (pNextN ((c, o, got, ()), ())).bind _ = _
   rw [k2]
   show (bif (a.kind == a.kind && (a.at_ == a.at_ && (a.which == a.which && (a.ref == a.ref && (a.field == a.field && (a.value == a.value && true)))))) then (PIf.spec sameResI ((rz, rz, ()), ())).bind _ else _) = _
   rw [acc_same, sameRes_sp (by simp [Sm])]
   rfl
theorem pSameAll_eq (a : List Acc) (h : a.length ≤ 1000000) : pSameAllN ((a, a, ()), ()) = some ((true, ()), ()) := by
 have h0 : pSameAllL0N ((a, a, Int.ofNat a.length, 0, ()), ()) = some (.inl ((), ())) := by
  refine loopF_at (fun j => ((a, a, Int.ofNat a.length, (j : Int), ()), ())) (k := a.length) (by unfold FU; omega) (fun j hj =>?_) ?_
  ·show pSameAllL0B a a (Int.ofNat a.length) (j : Int) = _
   unfold pSameAllL0B
   rw [decide_eq_true (show (j : Int) < Int.ofNat a.length by simp; omega), inR_ge hj, acc_same, w64_ix (by omega)]
   rfl
  ·show pSameAllL0B a a (Int.ofNat a.length) (a.length : Int) = _
   unfold pSameAllL0B
   rw [decide_eq_false (by simp)]
   rfl
 show (bif Int.ofNat a.length != Int.ofNat a.length then _ else (pSameAllL0N ((a, a, Int.ofNat a.length, 0, ()), ())).bind _) = _
 rw [h0, show (Int.ofNat a.length != Int.ofNat a.length) = false by simp]
 rfl
theorem lawAll_true {c : Cfg} {o : Opn} {got : List Int} (hx : ∀ x ∈ got, In64 x) (ha : In64 o.a) (hb : In64 o.b) : lawAllN ((c, o, got, ()), ()) = some ((true, ()), ()) := by
 show (PIf.spec liveFI ((), ())).bind _ = _
 rw [live_sp]
 show (PIf.spec mayFI ((c, got, ()), ())).bind _ = _
 obtain ⟨b, hm, h200⟩ := may_sp c got
 rw [hm]
 cases b with
 | false => rfl
 | true =>
  have hN := h200 rfl
  show (PIf.spec all_I ((c, o, got, ()), ())).bind _ = _
  have key : ∀ d : List Acc, d.length ≤ 1000 → PIf.spec all_I ((c, o, got, ()), ()) = some ((d, ()), ()) → pAllN ((c, o, got, ()), ()) = some ((d, ()), ()) → (PIf.spec all_I ((c, o, got, ()), ())).bind (fun z => (pAllN ((c, o, got, ()), ())).bind fun z1 => (pSameAllN ((z.1.1, z1.1.1, ()), ())).bind fun z => some ((z.1.1, ()), ())) = some ((true, ()), ()) := fun d hd k1 k2 => by
   rw [k1, k2]
   show (pSameAllN ((d, d, ()), ())).bind _ = _
   rw [pSameAll_eq d (by omega)]
   rfl
  rcases run_or (c := c) (by omega) hx ha hb with ⟨r, d, h1, h2, h3⟩ | ⟨d, h1, h2⟩
  ·refine key d (by omega) ?_ ?_
   ·show ((all_Tr c o got).val).map _ = _
    rw [all_ok (go_ok h1)]
    rfl
   ·show (pRunN ((c, o, got, ()), ())).bind _ = _
    rw [ref_ok (by omega) h1]
    rfl
  ·refine key d (by omega) ?_ ?_
   ·show ((all_Tr c o got).val).map _ = _
    rw [all_ok (go_stop h1)]
    rfl
   ·show (pRunN ((c, o, got, ()), ())).bind _ = _
    obtain ⟨hd', r, hr⟩ := ref_stop (by omega) h1
    rw [hr]
    rfl
end Go.Ax.Cd
