/- Merged. -/
import Derived.Test.YthcfkplfmjcmoaaGreatDoorQ32
import Derived.Test.YthcfkplfmjcmoaaGreatDoorQ34
import Derived.Test.YthcfkplfmjcmoaaGreatDoorQ17
namespace Go.Ax.Cd
set_option linter.unusedVariables false
abbrev zA : Acc := ⟨0, 0, 0, 0, 0, 0⟩
abbrev zR : Res := ⟨0, 0, [], [], []⟩
def Op64 (o : Opn) : Prop := aM o.a ∧ aM o.b ∧ aM o.k ∧ aM o.v
theorem aFw {σ : Type} {st : σ → Acc → Option σ} : ∀ {d : List Acc} {s s' : σ}, pU st s d = some s' → ∀ a ∈ d, ∃ u v, st u a = some v
 | [], s, s', h, a, ha => by cases ha
 | c :: d, s, s', h, a, ha => by
  simp only [pU] at h
  obtain ⟨u, h1, h2⟩ := Option.bind_eq_some_iff.1 h
  rcases List.mem_cons.1 ha with rfl | ha
  ·exact ⟨s, u, h1⟩
  ·exact aFw h2 a ha
theorem bGp {ro : Bool} {s s' : Nat × RS} {a : Acc} (h : vC ro s a = some s') (hk : a.kind = 4) : aM a.value := by
 unfold vC at h
 split at h
 ·split at h
  ·rename_i hb
   simp [bare, hk] at hb
  ·cases h
 ·split at h
  ·rw [if_neg (by omega)] at h
   obtain ⟨u, h1, h2⟩ := Option.map_eq_some_iff.1 h
   unfold bQ at h1
   rw [if_neg (by omega), if_neg (by omega), if_neg (by omega), if_neg (by omega), if_pos hk] at h1
   split at h1
   ·rename_i h3
    exact h3.2.2
   ·cases h1
  ·cases h
def nxt (c : Cfg) (o : Opn) (got : List Int) : Acc × Res × Bool := match (nV c o got).exec got [] with
 | .ok r _ => (zA, r, true)
 | .stop d => (rdE (EK.st SN.acc) d ((d.length - 1 : Nat) : Int), zR, false)
 | .bot => (zA, zR, false)
theorem aFx {c : Cfg} {o : Opn} {got : List Int} (hN : got.length ≤ 100000) (hx : ∀ x ∈ got, aM x) (ho : Op64 o) :
  (∃ r d, (nV c o got).exec got [] = .ok r d ∧ 0 < d.length ∧ d.length ≤ got.length ∧ Sm r) ∨ (∃ d, (nV c o got).exec got [] = .stop d ∧ d.length = got.length + 1 ∧ ∀ a ∈ d, a.kind = 4 → aM a.value) := by
 obtain ⟨ro, hro⟩ : ∃ ro : Bool, ¬ (o.kind = 6 ∨ o.kind = 7) → ro = false := ⟨false, fun _ => rfl⟩
 rcases bGo (c := c) (ro := ro) rfl hN hx ho.1 ho.2.1 ho.2.2.1 ho.2.2.2 hro with ⟨r, d, b, h1, h2, h3, h4⟩ | ⟨d, s', h1, h2, h3⟩
 ·refine .inl ⟨r, d, h1, ?_, h3, h4⟩
  cases d with
  | nil => simp [pU] at h2
  | cons a l => simp
 ·refine .inr ⟨d, h1, h3, fun a ha hk =>?_⟩
  obtain ⟨u, v, h⟩ := aFw h2 a ha
  exact bGp h hk
theorem bGq {c : Cfg} {o : Opn} {got : List Int} (hN : got.length ≤ 100000) (hx : ∀ x ∈ got, aM x) (ho : Op64 o) : nxtN ((c, o, got, ()), ()) = some (((nxt c o got).1, (nxt c o got).2.1, (nxt c o got).2.2, ()), ()) := by
 show ((vB c o got).val).map (fun a => (((a.1, a.2.1, a.2.2, ()), ()) : VhL [.s (.e (.st .acc)), .s (.e (.st .res)), vb] × OShL [])) = _
 unfold vB goTr nxt
 rcases aFx (c := c) hN hx ho with ⟨r, d, h1, h0, h3, h4⟩ | ⟨d, h1, h3, _⟩
 ·rw [h1]
  rfl
 ·rw [h1]
  have e1 : w64 (Int.ofNat d.length - 1) = ((d.length - 1 : Nat) : Int) := by
   rw [show Int.ofNat d.length - 1 = ((d.length - 1 : Nat) : Int) by simp; omega]
   rw [aD] <;> omega
  have e2 : inR ((d.length - 1 : Nat) : Int) d.length = true := by simp [inR]; omega
  simp only [T.bind, cond_false, e1, e2, cond_true]
  rfl
theorem bKu {c : Cfg} {o : Opn} {got : List Int} (hN : got.length ≤ 100000) (hx : ∀ x ∈ got, aM x) (ho : Op64 o) : (∃ r, nxt c o got = (zA, r, true) ∧ Sm r) ∨ (∃ a, nxt c o got = (a, zR, false) ∧ (a.kind = 4 → aM a.value)) := by
 unfold nxt
 rcases aFx (c := c) hN hx ho with ⟨r, d, h1, h0, h3, h4⟩ | ⟨d, h1, h3, h4⟩
 ·rw [h1]
  exact .inl ⟨r, rfl, h4⟩
 ·rw [h1]
  refine .inr ⟨_, rfl, h4 _ ?_⟩
  have hl : d.length - 1 < d.length := by omega
  have : rdE (EK.st SN.acc) d ((d.length - 1 : Nat) : Int) = d[d.length - 1] := by simp [rdE, rd, hl]
  rw [this]
  exact List.getElem_mem hl
structure ThrOk (n : Nat) (x : Thr) : Prop where
 ol : x.ops.length ≤ 64
 o64 : ∀ o ∈ x.ops, Op64 o
 a0 : 0 ≤ x.at_
 a1 : x.at_ ≤ x.ops.length
 gl : x.got.length ≤ n
 g64 : ∀ y ∈ x.got, aM y
structure WOk (n : Nat) (c : Cfg) (w : Wld) : Prop where
 sh : ShOk c w.shared
 m64 : uZ w.shared
 tl : w.threads.length ≤ 64
 th : ∀ x ∈ w.threads, ThrOk n x
 ev : w.events.length ≤ 2 * n
 to : w.touches.length ≤ n
 er : ∀ e ∈ w.events, Sm e.result
theorem ThrOk.mono {n m : Nat} {x : Thr} (h : ThrOk n x) (hm : n ≤ m) : ThrOk m x := ⟨h.ol, h.o64, h.a0, h.a1, by have := h.gl; omega, h.g64⟩
theorem WOk.mono {n m : Nat} {c : Cfg} {w : Wld} (h : WOk n c w) (hm : n ≤ m) : WOk m c w := ⟨h.sh, h.m64, h.tl, fun x hx => (h.th x hx).mono hm, by have := h.ev; omega, by have := h.to; omega, h.er⟩
theorem pE {e : EK} {xs : List e.T} {t : Int} (h : inR t xs.length = true) : rdE e xs t ∈ xs := by
 obtain ⟨h1, h2⟩ := kB.1 h
 have hl : t.toNat < xs.length := by omega
 have : rdE e xs t = xs[t.toNat] := by simp [rdE, rd, hl]
 rw [this]
 exact List.getElem_mem hl
theorem bGr {e : EK} {xs : List e.T} {t : Int} (h : inR t xs.length = true) (y : e.T) : rdE e (wrE e xs t y) t = y := by
 obtain ⟨h1, h2⟩ := kB.1 h
 have hl : t.toNat < xs.length := by omega
 simp [rdE, rd, wrE, wr, hl]
theorem aWf {e : EK} (xs : List e.T) (t : Int) (y z : e.T) : wrE e (wrE e xs t y) t z = wrE e xs t z := by
 simp [wrE, wr]
theorem aDj {e : EK} (xs : List e.T) (t : Int) (y : e.T) : (wrE e xs t y).length = xs.length := by
 simp [wrE, wr]
abbrev mQ (x : Thr) : Opn := rdE (EK.st SN.opn) x.ops x.at_
abbrev qJ (x : Thr) : List Int := bif x.busy then x.got else []
def aWg (w : Wld) (t : Int) : Prop := inR t w.threads.length = true ∧ inR (thr w.threads t).at_ (thr w.threads t).ops.length = true
instance (w : Wld) (t : Int) : Decidable (aWg w t) := by unfold aWg; infer_instance
noncomputable def kW (c : Cfg) (w : Wld) (t : Int) : Acc × Bool := if aWg w t then ((nxt c (mQ (thr w.threads t)) (qJ (thr w.threads t))).1, !(nxt c (mQ (thr w.threads t)) (qJ (thr w.threads t))).2.2) else (zA, false)
theorem aWh {n : Nat} {x : Thr} (h : ThrOk n x) : (qJ x).length ≤ n ∧ ∀ y ∈ qJ x, aM y := by
 unfold qJ
 cases x.busy with
 | true => exact ⟨h.gl, h.g64⟩
 | false => exact ⟨Nat.zero_le _, fun y hy => by cases hy⟩
theorem bBa (w : Wld) (t : Int) (hw : ∀ x ∈ w.threads, 0 ≤ x.at_) : trnThrN ((w, t, ()), ()) = some ((bif inR t w.threads.length then (thr w.threads t, inR (thr w.threads t).at_ (thr w.threads t).ops.length, ()) else (Thr.mk [] 0 false [], false, ())), ()) := by
 show aAr w t = _
 unfold aAr
 by_cases h1 : t < 0
 ·rw [decide_eq_true h1, show inR t w.threads.length = false by simp [inR]; omega]; rfl
 by_cases h2 : t ≥ Int.ofNat w.threads.length
 ·rw [decide_eq_false h1, decide_eq_true h2, show inR t w.threads.length = false by simp [inR]; intro _; simpa using h2]; rfl
 have h2' : t < w.threads.length := by simpa using h2
 have h3 : inR t w.threads.length = true := by simp [inR]; omega
 rw [decide_eq_false h1, decide_eq_false h2, h3]
 have h4 := hw _ (pE (e := EK.st SN.thr) h3)
 have h5 : (rdE (EK.st SN.thr) w.threads t).at_ ≥ 0 := h4
 simp only [cond_false, cond_true]
 rw [decide_eq_true h5]
 simp only [cond_true, inR]
 have h6 : decide (0 ≤ (rdE (EK.st SN.thr) w.threads t).at_) = true := decide_eq_true h4
 rw [h6]
 rfl
theorem aWi {n : Nat} {c : Cfg} {w : Wld} (hw : WOk n c w) (hn : n ≤ 50000) (t : Int) : trnAskN ((c, w, t, ()), ()) = some (((kW c w t).1, (kW c w t).2, ()), ()) := by
 show aAs nxtN trnThrN c w t = _
 unfold aAs kW
 rw [bBa w t (fun x hx => (hw.th x hx).a0)]
 simp only [Option.bind_some]
 by_cases h1 : inR t w.threads.length = true
 rotate_left
 ·rw [if_neg (fun h => h1 h.1), Bool.eq_false_iff.2 h1]
  rfl
 by_cases h2 : inR (thr w.threads t).at_ (thr w.threads t).ops.length = true
 rotate_left
 ·rw [if_neg (fun h => h2 h.2), h1, Bool.eq_false_iff.2 h2]
  rfl
 rw [if_pos ⟨h1, h2⟩, h1, h2]
 have hx : ThrOk n (thr w.threads t) := hw.th _ (pE (e := EK.st SN.thr) h1)
 have ho := hx.o64 _ (pE (e := EK.st SN.opn) h2)
 obtain ⟨g1, g2⟩ := aWh hx
 have hnx := bGq (c := c) (o := mQ (thr w.threads t)) (got := qJ (thr w.threads t)) (by omega) g2 ho
 simp only [Bool.not_true, cond_false, cond_true]
 rw [h2]
 unfold qJ at hnx ⊢
 cases h3 : (thr w.threads t).busy with
 | false =>
  rw [h3] at hnx
  simp only [cond_false] at hnx
  simp only [Bool.not_false, cond_true, hnx, Option.bind_some, cond_false]
 | true =>
  rw [h3] at hnx
  simp only [cond_true] at hnx
  simp only [Bool.not_true, cond_false, hnx, Option.bind_some, cond_true]
def done (w : Wld) (t : Int) : Bool := inR t w.threads.length && !(thr w.threads t).busy && decide ((thr w.threads t).at_ ≥ Int.ofNat (thr w.threads t).ops.length)
noncomputable def nW (c : Cfg) (w : Wld) (t : Int) (s : Shr) (n : Int) (l : List Tou) : Wld :=
 bif (nxt c (mQ (thr w.threads t)) (qJ (thr w.threads t) ++ [n])).2.2 then
  ⟨s, wrE (EK.st SN.thr) w.threads t ⟨(thr w.threads t).ops, (thr w.threads t).at_ + 1, false, []⟩, (bif (thr w.threads t).busy then w.events else w.events ++ [⟨t, false, mQ (thr w.threads t), zR⟩]) ++ [⟨t, true, mQ (thr w.threads t), (nxt c (mQ (thr w.threads t)) (qJ (thr w.threads t) ++ [n])).2.1⟩], w.touches ++ l⟩
 else ⟨s, wrE (EK.st SN.thr) w.threads t ⟨(thr w.threads t).ops, (thr w.threads t).at_, true, qJ (thr w.threads t) ++ [n]⟩, (bif (thr w.threads t).busy then w.events else w.events ++ [⟨t, false, mQ (thr w.threads t), zR⟩]), w.touches ++ l⟩
noncomputable def step (c : Cfg) (w : Wld) (t : Int) : Wld × Bool :=
 if (kW c w t).2 = false ∨ sC w.shared (kW c w t).1 = true ∨ (kQ c w.shared t (kW c w t).1).2.2.2 ≠ 0 then (w, false)
 else (nW c w t (kQ c w.shared t (kW c w t).1).1 (kQ c w.shared t (kW c w t).1).2.1 (kQ c w.shared t (kW c w t).1).2.2.1, true)
theorem wU {c : Cfg} {w : Wld} {t : Int} (h : (kW c w t).2 = true) : aWg w t := by
 unfold kW at h
 split at h
 ·assumption
 ·cases h
theorem bJf {a b : List Tou} (h : a.length + b.length ≤ 1000000000) : conTN (([a, b], ()), ()) = some ((a ++ b, ()), ()) := by
 show (bif decide ((List.flatten [a, b]).length ≤ 1000000000) && decide ([a, b].length ≤ 1000000000) then some ((List.flatten [a, b], ()), ()) else none) = _
 have e : List.flatten [a, b] = a ++ b := by simp
 rw [e, decide_eq_true (by simpa using h)]
 rfl
theorem aFy {c : Cfg} {s : Shr} {n : Int} {l : List Tou} {t : Int} {o : Opn} {xs : List Thr} {evs : List Ev} (ht : inR t xs.length = true) (hg : (thr xs t).got.length ≤ 99999) (hg2 : ∀ y ∈ (thr xs t).got, aM y) (hn : aM n) (ho : Op64 o) (he : evs.length ≤ 999999999) (ha : 0 ≤ (thr xs t).at_ ∧ (thr xs t).at_ ≤ 64) :
  aIb clnIN nxtN c s n l t o xs evs = some (((bif (nxt c o ((thr xs t).got ++ [n])).2.2 then ⟨s, wrE (EK.st SN.thr) xs t ⟨(thr xs t).ops, (thr xs t).at_ + 1, false, []⟩, evs ++ [⟨t, true, o, (nxt c o ((thr xs t).got ++ [n])).2.1⟩], l⟩
   else ⟨s, wrE (EK.st SN.thr) xs t ⟨(thr xs t).ops, (thr xs t).at_, (thr xs t).busy, (thr xs t).got ++ [n]⟩, evs, l⟩), true, ()), ()) := by
 unfold aIb
 rw [lD (by omega)]
 simp only [Option.bind_some]
 rw [decide_eq_true (show (thr xs t).got.length + [n].length ≤ 1000000000 by simp; omega)]
 have ht2 : ∀ y : Thr, inR t (wrE (EK.st SN.thr) xs t y).length = true := fun y => by rw [aDj]; exact ht
 simp only [cond_true, tG, tB, tA, thr, bGr (e := EK.st SN.thr) ht, aWf]
 rw [bGq (by simp; simpa using hg) (fun y hy => by
  rcases List.mem_append.1 hy with hy | hy
  ·exact hg2 y hy
  ·simp at hy; subst hy; exact hn) ho]
 simp only [Option.bind_some]
 cases (nxt c o ((rdE (EK.st SN.thr) xs t).got ++ [n])).2.2 with
 | false => rfl
 | true =>
  simp only [cond_true]
  have ha' : 0 ≤ (rdE (EK.st SN.thr) xs t).at_ ∧ (rdE (EK.st SN.thr) xs t).at_ ≤ 64 := ha
  rw [decide_eq_true (show evs.length + [Ev.mk t true o (nxt c o ((rdE (EK.st SN.thr) xs t).got ++ [n])).2.1].length ≤ 1000000000 by simp; omega), bF (n := (rdE (EK.st SN.thr) xs t).at_ + 1) (by omega) (by omega)]
  rfl
theorem bJg {n : Nat} {c : Cfg} {w : Wld} (hw : WOk n c w) (hn : n ≤ 50000) (t : Int) : trnStpN ((c, w, t, ()), ()) = some (((step c w t).1, (step c w t).2, ()), ()) := by
 show aAt clnIN askWaiN askDoN clnTN clnVN conTN nxtN trnAskN c w t = _
 unfold aAt step
 rw [aWi hw hn]
 simp only [Option.bind_some]
 cases h1 : (kW c w t).2 with
 | false => rw [if_pos (.inl rfl)]; rfl
 | true =>
 simp only [Bool.not_true, cond_false]
 rw [aEy]
 simp only [Option.bind_some]
 cases h2 : sC w.shared (kW c w t).1 with
 | true => rw [if_pos (.inr (.inl rfl))]; rfl
 | false =>
 simp only [cond_false]
 rw [aKo c hw.sh.s]
 simp only [Option.bind_some]
 by_cases h3 : (kQ c w.shared t (kW c w t).1).2.2.2 = 0
 rotate_left
 ·rw [show ((kQ c w.shared t (kW c w t).1).2.2.2 != 0) = true by simp [h3], if_pos (.inr (.inr h3))]; rfl
 rw [show ((kQ c w.shared t (kW c w t).1).2.2.2 != 0) = false by simp [h3], if_neg (by simp [h3])]
 simp only [cond_false]
 have hlive := wU h1
 obtain ⟨l1, l2⟩ := hlive
 have hx : ThrOk n (thr w.threads t) := hw.th _ (pE (e := EK.st SN.thr) l1)
 have ho := hx.o64 _ (pE (e := EK.st SN.opn) l2)
 have htl := hw.tl
 have hev := hw.ev
 have hto := hw.to
 generalize hd : kQ c w.shared t (kW c w t).1 = d at *
 obtain ⟨s, m, l, e⟩ := d
 simp only at h3
 subst h3
 obtain ⟨q1, q2, q3, q4⟩ := aHy hd
 obtain ⟨r1, r2, r3, r4⟩ := bGb q1 q3
 have hm := r2 hw.m64
 have hll := aHz w.shared t (kW c w t).1
 rw [← q4] at hll
 rw [show clnTN ((w.threads, ()), ()) = _ from aUu (k := EK.st SN.thr) (by show w.threads.length ≤ _; omega), show clnVN ((w.events, ()), ()) = _ from aUu (k := EK.st SN.ev) (by show w.events.length ≤ _; omega), bJf (show w.touches.length + l.length ≤ 1000000000 by omega)]
 simp only [Option.bind_some]
 rw [l1, l2]
 simp only [cond_true]
 unfold nW qJ
 have hga := hx.a1
 have hga0 := hx.a0
 have hol := hx.ol
 have hgl := hx.gl
 cases hb : (thr w.threads t).busy with
 | true =>
  simp only [Bool.not_true, cond_false, cond_true]
  rw [aFy l1 (by omega) hx.g64 hm ho (by omega) ⟨by omega, by omega⟩, hb]
 | false =>
  simp only [Bool.not_false, cond_true, cond_false, List.nil_append]
  rw [decide_eq_true (show w.events.length + [Ev.mk t false (rdE (EK.st SN.opn) (thr w.threads t).ops (thr w.threads t).at_) (Res.mk 0 0 [] [] [])].length ≤ 1000000000 by simp; omega)]
  simp only [cond_true]
  have e1 : tG (tB w.threads t true) t [] = wrE (EK.st SN.thr) w.threads t ⟨(thr w.threads t).ops, (thr w.threads t).at_, true, []⟩ := by
   simp only [tG, tB, thr, bGr (e := EK.st SN.thr) l1, aWf]
  rw [e1]
  have e2 : thr (wrE (EK.st SN.thr) w.threads t ⟨(thr w.threads t).ops, (thr w.threads t).at_, true, []⟩) t = ⟨(thr w.threads t).ops, (thr w.threads t).at_, true, []⟩ := bGr (e := EK.st SN.thr) l1 _
  rw [aFy (by rw [aDj]; exact l1) (by rw [e2]; simp) (by rw [e2]; simp) hm ho (by simp; omega) (by rw [e2]; exact ⟨show 0 ≤ (thr w.threads t).at_ by omega, show (thr w.threads t).at_ ≤ 64 by omega⟩), e2]
  simp only [List.nil_append, aWf]
theorem aWj {n : Nat} {c : Cfg} {w : Wld} (hw : WOk n c w) (hn : n ≤ 50000) (t : Int) : WOk (n + 1) c (step c w t).1 := by
 unfold step
 split
 ·exact hw.mono (by omega)
 ·rename_i h
  simp only [not_or, Bool.not_eq_false, Bool.not_eq_true, ne_eq, Decidable.not_not] at h
  obtain ⟨h1, h2, h3⟩ := h
  have hlive := wU h1
  obtain ⟨l1, l2⟩ := hlive
  have hx : ThrOk n (thr w.threads t) := hw.th _ (pE (e := EK.st SN.thr) l1)
  have ho := hx.o64 _ (pE (e := EK.st SN.opn) l2)
  obtain ⟨g1, g2⟩ := aWh hx
  have hval : (kW c w t).1.kind = 4 → aM (kW c w t).1.value := by
   unfold kW at h1 ⊢
   rw [if_pos ⟨l1, l2⟩] at h1 ⊢
   rcases bKu (c := c) (by omega) g2 ho with ⟨r, e, _⟩ | ⟨a, e, hv⟩
   ·rw [e] at h1; cases h1
   ·rw [e]; exact hv
  generalize hd : kQ c w.shared t (kW c w t).1 = d at *
  obtain ⟨s, m, l, e⟩ := d
  simp only at h3
  subst h3
  obtain ⟨q1, q2, q3, q4⟩ := aHy hd
  obtain ⟨r1, r2, r3, r4⟩ := bGb q1 q3
  have hm := r2 hw.m64
  have hll := aHz w.shared t (kW c w t).1
  rw [← q4] at hll
  have hev := hw.ev
  have hto := hw.to
  have h64 : ∀ y ∈ qJ (thr w.threads t) ++ [m], aM y := fun y hy => by
   rcases List.mem_append.1 hy with hy | hy
   ·exact g2 y hy
   ·simp at hy; subst hy; exact hm
  have hE : ∀ e ∈ (bif (thr w.threads t).busy then w.events else w.events ++ [⟨t, false, mQ (thr w.threads t), zR⟩]), Sm e.result := fun e he => by
   cases hb : (thr w.threads t).busy with
   | true => rw [hb] at he; exact hw.er e he
   | false =>
    rw [hb] at he
    rcases List.mem_append.1 he with he | he
    ·exact hw.er e he
    ·simp at he; subst he; exact sm0
  have hEl : (bif (thr w.threads t).busy then w.events else w.events ++ [⟨t, false, mQ (thr w.threads t), zR⟩]).length ≤ w.events.length + 1 := by
   cases (thr w.threads t).busy <;> simp
  have hTh : ∀ y, ThrOk (n + 1) y → ∀ x ∈ wrE (EK.st SN.thr) w.threads t y, ThrOk (n + 1) x := fun y hy x hx2 => by
   rcases List.mem_or_eq_of_mem_set hx2 with hx2 | rfl
   ·exact (hw.th x hx2).mono (by omega)
   ·exact hy
  have hlt : (thr w.threads t).at_ < (thr w.threads t).ops.length := (kB.1 l2).2
  have ha0 := hx.a0
  unfold nW
  rcases bKu (c := c) (o := mQ (thr w.threads t)) (got := qJ (thr w.threads t) ++ [m]) (by simp; omega) h64 ho with ⟨r, e, hsm⟩ | ⟨a, e, hv⟩
  ·rw [e]
   simp only [cond_true]
   exact ⟨r1, r3 hw.m64 hval, by show (wrE (EK.st SN.thr) _ _ _).length ≤ 64; rw [aDj]; exact hw.tl, hTh _ ⟨hx.ol, hx.o64, by show 0 ≤ _ + 1; omega, by show (thr w.threads t).at_ + 1 ≤ (thr w.threads t).ops.length; omega, Nat.zero_le _, fun y hy => by cases hy⟩,
    by simp; omega, by simp; omega, fun e he => by
     rcases List.mem_append.1 he with he | he
     ·exact hE e he
     ·simp at he; subst he; exact hsm⟩
  ·rw [e]
   simp only [cond_false]
   exact ⟨r1, r3 hw.m64 hval, by show (wrE (EK.st SN.thr) _ _ _).length ≤ 64; rw [aDj]; exact hw.tl, hTh _ ⟨hx.ol, hx.o64, hx.a0, hx.a1, by simp; omega, h64⟩, by simp; omega, by simp; omega, hE⟩
open Go.Proofs
set_option maxRecDepth 100000
noncomputable abbrev rSameIL0E : Le := ⟨0, Tryz.f64, 0, [0, 1, 12, 13], [.s (.e (.sl .int)), .s (.e (.sl .int)), vi, vi], [], ((Fin.one 0 Tryz.f64.ntmps (.exit 0) [] [] []).or (Fin.one 0 Tryz.f64.ntmps .ret [4] [vb] []))⟩
noncomputable def jX (v0 v1 : List Int) (v2 v3 : Int) : Option (rSameIL0E.X ⊕ rSameIL0E.fin.Y) := bif decide (v3 < v2) then bif inR v3 v0.length then bif inR v3 v1.length then bif rdE EK.int v0 v3 != rdE EK.int v1 v3 then some (Sum.inr (Sum.inr ((false, ()), ()))) else some (Sum.inl ((v0, v1, v2, w64 (v3 + 1), ()), ())) else none else none else some (Sum.inr (Sum.inl ((), ())))
noncomputable def rSameIL0N : rSameIL0E.T := rSameIL0E.lp (rSameIL0E.un (jX))
theorem aIc (x) : rSameIL0E.run [] [] [] x = rSameIL0E.un (jX) x := by kernel_rfl
theorem aNn : rSameIL0E.Ok rSameIL0N := Le.k (fo f1 f1) g0 (aA (by kernel_rfl)) (aIc)
noncomputable abbrev rSameIE : Fe := ⟨64, Tryz.f64, [.s (.e (.sl .int)), .s (.e (.sl .int))], [], [vb], []⟩
noncomputable def aAu (p0 : rSameIL0E.T) (a b : List Int) : Option rSameIE.Y := bif Int.ofNat a.length != Int.ofNat b.length then some ((false, ()), ()) else (p0 ((a, b, Int.ofNat a.length, 0, ()), ())).bind fun z => aH z (fun z => some ((true, ()), ())) fun z => some ((z.1.1, ()), ())
noncomputable def rSameIN : rSameIE.T := rSameIE.un (aAu rSameIL0N)
theorem aTl (p0 : rSameIL0E.T) (x) : rSameIE.run [] [(4, rSameIL0E.on p0)] [] x = rSameIE.un (aAu p0) x := by kernel_rfl
theorem rSameI_ok : rSameIE.Ok rSameIN := Fe.k (by kernel_rfl) g0 (bD (by kernel_rfl) (lsc (by kernel_rfl) aNn rfl lsn)) (aTl rSameIL0N)
noncomputable abbrev rSamePE : Fe := ⟨62, Tryz.f62, [.s (.e (.st .pool)), .s (.e (.st .pool))], [], [vb], []⟩
noncomputable def aAv (p0 : rSameIE.T) (a b : Pool) : Option rSamePE.Y := (p0 ((a.gens, b.gens, ()), ())).bind fun z => bif z.1.1 then (p0 ((a.states, b.states, ()), ())).bind fun z => bif z.1.1 then (p0 ((a.when_, b.when_, ()), ())).bind fun z => bif z.1.1 then (p0 ((a.free, b.free, ()), ())).bind fun z => some ((z.1.1, ()), ()) else some ((false, ()), ()) else some ((false, ()), ()) else some ((false, ()), ())
noncomputable def rSamePN : rSamePE.T := rSamePE.un (aAv rSameIN)
theorem aTm (p0 : rSameIE.T) (x) : rSamePE.run [rSameIE.on p0] [] [] x = rSamePE.un (aAv p0) x := by kernel_rfl
theorem rSameP_ok : rSamePE.Ok rSamePN := Fe.k (by kernel_rfl) (rSameI_ok.k g0) (aA (by kernel_rfl)) (aTm rSameIN)
noncomputable abbrev rSameEE : Fe := ⟨63, Tryz.f63, [.s (.e (.st .era)), .s (.e (.st .era))], [], [vb], []⟩
noncomputable def aAw (p0 : rSameIE.T) (a b : Era) : Option rSameEE.Y := bif a.now == b.now then (p0 ((a.pins, b.pins, ()), ())).bind fun z => some ((z.1.1, ()), ()) else some ((false, ()), ())
noncomputable def rSameEN : rSameEE.T := rSameEE.un (aAw rSameIN)
theorem aTn (p0 : rSameIE.T) (x) : rSameEE.run [rSameIE.on p0] [] [] x = rSameEE.un (aAw p0) x := by kernel_rfl
theorem rSameE_ok : rSameEE.Ok rSameEN := Fe.k (by kernel_rfl) (rSameI_ok.k g0) (aA (by kernel_rfl)) (aTn rSameIN)
noncomputable abbrev rSameSE : Fe := ⟨18, Tryz.f18, [.s (.e (.st .shr)), .s (.e (.st .shr))], [], [vb], []⟩
noncomputable def aAx (p0 : rSameIE.T) (p1 : rSamePE.T) (p2 : rSameEE.T) (a b : Shr) : Option rSameSE.Y := (p1 ((a.p0, b.p0, ()), ())).bind fun z => bif !z.1.1 then some ((false, ()), ()) else (p1 ((a.p1, b.p1, ()), ())).bind fun z => bif !z.1.1 then some ((false, ()), ()) else (p1 ((a.p2, b.p2, ()), ())).bind fun z => bif !z.1.1 then some ((false, ()), ()) else (p2 ((a.era, b.era, ()), ())).bind fun z => bif z.1.1 then (p0 ((a.mem, b.mem, ()), ())).bind fun z => bif z.1.1 then (p0 ((a.latches, b.latches, ()), ())).bind fun z => some ((z.1.1, ()), ()) else some ((false, ()), ()) else some ((false, ()), ())
noncomputable def rSameSN : rSameSE.T := rSameSE.un (aAx rSameIN rSamePN rSameEN)
theorem aTo (p0 : rSameIE.T) (p1 : rSamePE.T) (p2 : rSameEE.T) (x) : rSameSE.run [rSameIE.on p0, rSamePE.on p1, rSameEE.on p2] [] [] x = rSameSE.un (aAx p0 p1 p2) x := by kernel_rfl
theorem rSameS_ok : rSameSE.Ok rSameSN := Fe.k (by kernel_rfl) (rSameI_ok.k (rSameP_ok.k (rSameE_ok.k g0))) (bD (by kernel_rfl) (lsz (f := Tryz.f18) (i := 0) (by kernel_rfl) lsn)) (aTo rSameIN rSamePN rSameEN)
noncomputable abbrev rSamePrL0E : Le := ⟨0, Tryz.f65, 0, [0, 1, 12, 13], [.s (.e (.sl (.st .pr))), .s (.e (.sl (.st .pr))), vi, vi], [], ((Fin.one 0 Tryz.f65.ntmps (.exit 0) [] [] []).or (Fin.one 0 Tryz.f65.ntmps .ret [4] [vb] []))⟩
noncomputable def fZ (v0 v1 : List Pr) (v2 v3 : Int) : Option (rSamePrL0E.X ⊕ rSamePrL0E.fin.Y) := bif decide (v3 < v2) then bif inR v3 v0.length then bif inR v3 v1.length then bif !((rdE (EK.st SN.pr) v0 v3).k == (rdE (EK.st SN.pr) v1 v3).k && ((rdE (EK.st SN.pr) v0 v3).v == (rdE (EK.st SN.pr) v1 v3).v && true)) then some (Sum.inr (Sum.inr ((false, ()), ()))) else some (Sum.inl ((v0, v1, v2, w64 (v3 + 1), ()), ())) else none else none else some (Sum.inr (Sum.inl ((), ())))
noncomputable def rSamePrL0N : rSamePrL0E.T := rSamePrL0E.lp (rSamePrL0E.un (fZ))
theorem aDw (x) : rSamePrL0E.run [] [] [] x = rSamePrL0E.un (fZ) x := by kernel_rfl
theorem aId : rSamePrL0E.Ok rSamePrL0N := Le.k (fo f1 f1) g0 (aA (by kernel_rfl)) (aDw)
noncomputable abbrev rSamePrE : Fe := ⟨65, Tryz.f65, [.s (.e (.sl (.st .pr))), .s (.e (.sl (.st .pr)))], [], [vb], []⟩
noncomputable def vD (p0 : rSamePrL0E.T) (a b : List Pr) : Option rSamePrE.Y := bif Int.ofNat a.length != Int.ofNat b.length then some ((false, ()), ()) else (p0 ((a, b, Int.ofNat a.length, 0, ()), ())).bind fun z => aH z (fun z => some ((true, ()), ())) fun z => some ((z.1.1, ()), ())
noncomputable def rSamePrN : rSamePrE.T := rSamePrE.un (vD rSamePrL0N)
theorem aNo (p0 : rSamePrL0E.T) (x) : rSamePrE.run [] [(4, rSamePrL0E.on p0)] [] x = rSamePrE.un (vD p0) x := by kernel_rfl
theorem rSamePr_ok : rSamePrE.Ok rSamePrN := Fe.k (by kernel_rfl) g0 (bD (by kernel_rfl) (lsc (by kernel_rfl) aId rfl lsn)) (aNo rSamePrL0N)
noncomputable abbrev rSameEnL0E : Le := ⟨0, Tryz.f66, 0, [0, 1, 12, 13], [.s (.e (.sl (.st .en))), .s (.e (.sl (.st .en))), vi, vi], [], ((Fin.one 0 Tryz.f66.ntmps (.exit 0) [] [] []).or (Fin.one 0 Tryz.f66.ntmps .ret [4] [vb] []))⟩
noncomputable def gA (v0 v1 : List En) (v2 v3 : Int) : Option (rSameEnL0E.X ⊕ rSameEnL0E.fin.Y) := bif decide (v3 < v2) then bif inR v3 v0.length then bif inR v3 v1.length then bif !((rdE (EK.st SN.en) v0 v3).edge == (rdE (EK.st SN.en) v1 v3).edge && ((rdE (EK.st SN.en) v0 v3).node == (rdE (EK.st SN.en) v1 v3).node && true)) then some (Sum.inr (Sum.inr ((false, ()), ()))) else some (Sum.inl ((v0, v1, v2, w64 (v3 + 1), ()), ())) else none else none else some (Sum.inr (Sum.inl ((), ())))
noncomputable def rSameEnL0N : rSameEnL0E.T := rSameEnL0E.lp (rSameEnL0E.un (gA))
theorem aDx (x) : rSameEnL0E.run [] [] [] x = rSameEnL0E.un (gA) x := by kernel_rfl
theorem aIe : rSameEnL0E.Ok rSameEnL0N := Le.k (fo f1 f1) g0 (aA (by kernel_rfl)) (aDx)
noncomputable abbrev rSameEnE : Fe := ⟨66, Tryz.f66, [.s (.e (.sl (.st .en))), .s (.e (.sl (.st .en)))], [], [vb], []⟩
noncomputable def vE (p0 : rSameEnL0E.T) (a b : List En) : Option rSameEnE.Y := bif Int.ofNat a.length != Int.ofNat b.length then some ((false, ()), ()) else (p0 ((a, b, Int.ofNat a.length, 0, ()), ())).bind fun z => aH z (fun z => some ((true, ()), ())) fun z => some ((z.1.1, ()), ())
noncomputable def rSameEnN : rSameEnE.T := rSameEnE.un (vE rSameEnL0N)
theorem aNp (p0 : rSameEnL0E.T) (x) : rSameEnE.run [] [(4, rSameEnL0E.on p0)] [] x = rSameEnE.un (vE p0) x := by kernel_rfl
theorem rSameEn_ok : rSameEnE.Ok rSameEnN := Fe.k (by kernel_rfl) g0 (bD (by kernel_rfl) (lsc (by kernel_rfl) aIe rfl lsn)) (aNp rSameEnL0N)
noncomputable abbrev rSameRE : Fe := ⟨19, Tryz.f19, [.s (.e (.st .res)), .s (.e (.st .res))], [], [vb], []⟩
noncomputable def aAy (p0 : rSamePrE.T) (p1 : rSameEnE.T) (a b : Res) : Option rSameRE.Y := bif a.err == b.err then bif a.id == b.id then (p0 ((a.pairs, b.pairs, ()), ())).bind fun z => bif z.1.1 then (p1 ((a.out, b.out, ()), ())).bind fun z => bif z.1.1 then (p1 ((a.inn, b.inn, ()), ())).bind fun z => some ((z.1.1, ()), ()) else some ((false, ()), ()) else some ((false, ()), ()) else some ((false, ()), ()) else some ((false, ()), ())
noncomputable def rSameRN : rSameRE.T := rSameRE.un (aAy rSamePrN rSameEnN)
theorem aTp (p0 : rSamePrE.T) (p1 : rSameEnE.T) (x) : rSameRE.run [rSamePrE.on p0, rSameEnE.on p1] [] [] x = rSameRE.un (aAy p0 p1) x := by kernel_rfl
theorem rSameR_ok : rSameRE.Ok rSameRN := Fe.k (by kernel_rfl) (rSamePr_ok.k (rSameEn_ok.k g0)) (aA (by kernel_rfl)) (aTp rSamePrN rSameEnN)
noncomputable abbrev rSameOpL0E : Le := ⟨0, Tryz.f41, 0, [0, 1, 12, 13], [.s (.e (.sl (.st .opn))), .s (.e (.sl (.st .opn))), vi, vi], [], ((Fin.one 0 Tryz.f41.ntmps (.exit 0) [] [] []).or (Fin.one 0 Tryz.f41.ntmps .ret [4] [vb] []))⟩
noncomputable def gB (v0 v1 : List Opn) (v2 v3 : Int) : Option (rSameOpL0E.X ⊕ rSameOpL0E.fin.Y) := bif decide (v3 < v2) then bif inR v3 v0.length then bif inR v3 v1.length then bif !((rdE (EK.st SN.opn) v0 v3).kind == (rdE (EK.st SN.opn) v1 v3).kind && ((rdE (EK.st SN.opn) v0 v3).a == (rdE (EK.st SN.opn) v1 v3).a && ((rdE (EK.st SN.opn) v0 v3).b == (rdE (EK.st SN.opn) v1 v3).b && ((rdE (EK.st SN.opn) v0 v3).k == (rdE (EK.st SN.opn) v1 v3).k && ((rdE (EK.st SN.opn) v0 v3).v == (rdE (EK.st SN.opn) v1 v3).v && true))))) then some (Sum.inr (Sum.inr ((false, ()), ()))) else some (Sum.inl ((v0, v1, v2, w64 (v3 + 1), ()), ())) else none else none else some (Sum.inr (Sum.inl ((), ())))
noncomputable def rSameOpL0N : rSameOpL0E.T := rSameOpL0E.lp (rSameOpL0E.un (gB))
theorem aDy (x) : rSameOpL0E.run [] [] [] x = rSameOpL0E.un (gB) x := by kernel_rfl
theorem aIf : rSameOpL0E.Ok rSameOpL0N := Le.k (fo f1 f1) g0 (aA (by kernel_rfl)) (aDy)
noncomputable abbrev rSameOpE : Fe := ⟨41, Tryz.f41, [.s (.e (.sl (.st .opn))), .s (.e (.sl (.st .opn)))], [], [vb], []⟩
noncomputable def vF (p0 : rSameOpL0E.T) (a b : List Opn) : Option rSameOpE.Y := bif Int.ofNat a.length != Int.ofNat b.length then some ((false, ()), ()) else (p0 ((a, b, Int.ofNat a.length, 0, ()), ())).bind fun z => aH z (fun z => some ((true, ()), ())) fun z => some ((z.1.1, ()), ())
noncomputable def rSameOpN : rSameOpE.T := rSameOpE.un (vF rSameOpL0N)
theorem aNq (p0 : rSameOpL0E.T) (x) : rSameOpE.run [] [(4, rSameOpL0E.on p0)] [] x = rSameOpE.un (vF p0) x := by kernel_rfl
theorem rSameOp_ok : rSameOpE.Ok rSameOpN := Fe.k (by kernel_rfl) g0 (bD (by kernel_rfl) (lsc (by kernel_rfl) aIf rfl lsn)) (aNq rSameOpL0N)
noncomputable abbrev rSameEvL0E : Le := ⟨0, Tryz.f30, 0, [0, 1, 12, 13], [.s (.e (.sl (.st .ev))), .s (.e (.sl (.st .ev))), vi, vi], [], ((Fin.one 0 Tryz.f30.ntmps (.exit 0) [] [] []).or (Fin.one 0 Tryz.f30.ntmps .ret [4] [vb] []))⟩
noncomputable def gC (p0 : rSameRE.T) (v0 v1 : List Ev) (v2 v3 : Int) : Option (rSameEvL0E.X ⊕ rSameEvL0E.fin.Y) := bif decide (v3 < v2) then bif inR v3 v0.length then bif inR v3 v1.length then bif (rdE (EK.st SN.ev) v0 v3).thread != (rdE (EK.st SN.ev) v1 v3).thread then some (Sum.inr (Sum.inr ((false, ()), ()))) else bif inR v3 v0.length then bif inR v3 v1.length then bif !(rdE (EK.st SN.ev) v0 v3).done == (rdE (EK.st SN.ev) v1 v3).done then some (Sum.inr (Sum.inr ((false, ()), ()))) else bif inR v3 v0.length then bif inR v3 v1.length then bif !((rdE (EK.st SN.ev) v0 v3).op.kind == (rdE (EK.st SN.ev) v1 v3).op.kind && ((rdE (EK.st SN.ev) v0 v3).op.a == (rdE (EK.st SN.ev) v1 v3).op.a && ((rdE (EK.st SN.ev) v0 v3).op.b == (rdE (EK.st SN.ev) v1 v3).op.b && ((rdE (EK.st SN.ev) v0 v3).op.k == (rdE (EK.st SN.ev) v1 v3).op.k && ((rdE (EK.st SN.ev) v0 v3).op.v == (rdE (EK.st SN.ev) v1 v3).op.v && true))))) then some (Sum.inr (Sum.inr ((false, ()), ()))) else bif inR v3 v0.length then bif inR v3 v1.length then (p0 (((rdE (EK.st SN.ev) v0 v3).result, (rdE (EK.st SN.ev) v1 v3).result, ()), ())).bind fun z => bif !z.1.1 then some (Sum.inr (Sum.inr ((false, ()), ()))) else some (Sum.inl ((v0, v1, v2, w64 (v3 + 1), ()), ())) else none else none else none else none else none else none else none else none else some (Sum.inr (Sum.inl ((), ())))
noncomputable def rSameEvL0N : rSameEvL0E.T := rSameEvL0E.lp (rSameEvL0E.un (gC rSameRN))
theorem aDz (p0 : rSameRE.T) (x) : rSameEvL0E.run [rSameRE.on p0] [] [] x = rSameEvL0E.un (gC p0) x := by kernel_rfl
theorem aIg : rSameEvL0E.Ok rSameEvL0N := Le.k (fo f1 f1) (rSameR_ok.k g0) (aA (by kernel_rfl)) (aDz rSameRN)
noncomputable abbrev rSameEvE : Fe := ⟨30, Tryz.f30, [.s (.e (.sl (.st .ev))), .s (.e (.sl (.st .ev)))], [], [vb], []⟩
noncomputable def vG (p0 : rSameRE.T) (p1 : rSameEvL0E.T) (a b : List Ev) : Option rSameEvE.Y := bif Int.ofNat a.length != Int.ofNat b.length then some ((false, ()), ()) else (p1 ((a, b, Int.ofNat a.length, 0, ()), ())).bind fun z => aH z (fun z => some ((true, ()), ())) fun z => some ((z.1.1, ()), ())
noncomputable def rSameEvN : rSameEvE.T := rSameEvE.un (vG rSameRN rSameEvL0N)
theorem aNr (p0 : rSameRE.T) (p1 : rSameEvL0E.T) (x) : rSameEvE.run [rSameRE.on p0] [(4, rSameEvL0E.on p1)] [] x = rSameEvE.un (vG p0 p1) x := by kernel_rfl
theorem rSameEv_ok : rSameEvE.Ok rSameEvN := Fe.k (by kernel_rfl) (rSameR_ok.k g0) (bD (by kernel_rfl) (lsc (by kernel_rfl) aIg rfl lsn)) (aNr rSameRN rSameEvL0N)
noncomputable abbrev rSameToL0E : Le := ⟨0, Tryz.f77, 0, [0, 1, 12, 13], [.s (.e (.sl (.st .tou))), .s (.e (.sl (.st .tou))), vi, vi], [], ((Fin.one 0 Tryz.f77.ntmps (.exit 0) [] [] []).or (Fin.one 0 Tryz.f77.ntmps .ret [4] [vb] []))⟩
noncomputable def gE (v0 v1 : List Tou) (v2 v3 : Int) : Option (rSameToL0E.X ⊕ rSameToL0E.fin.Y) := bif decide (v3 < v2) then bif inR v3 v0.length then bif inR v3 v1.length then bif !((rdE (EK.st SN.tou) v0 v3).thread == (rdE (EK.st SN.tou) v1 v3).thread && ((rdE (EK.st SN.tou) v0 v3).which == (rdE (EK.st SN.tou) v1 v3).which && ((rdE (EK.st SN.tou) v0 v3).slot == (rdE (EK.st SN.tou) v1 v3).slot && ((rdE (EK.st SN.tou) v0 v3).field == (rdE (EK.st SN.tou) v1 v3).field && ((rdE (EK.st SN.tou) v0 v3).held == (rdE (EK.st SN.tou) v1 v3).held && ((rdE (EK.st SN.tou) v0 v3).gen == (rdE (EK.st SN.tou) v1 v3).gen && ((rdE (EK.st SN.tou) v0 v3).state == (rdE (EK.st SN.tou) v1 v3).state && ((rdE (EK.st SN.tou) v0 v3).store == (rdE (EK.st SN.tou) v1 v3).store && true)))))))) then some (Sum.inr (Sum.inr ((false, ()), ()))) else some (Sum.inl ((v0, v1, v2, w64 (v3 + 1), ()), ())) else none else none else some (Sum.inr (Sum.inl ((), ())))
noncomputable def rSameToL0N : rSameToL0E.T := rSameToL0E.lp (rSameToL0E.un (gE))
theorem aEa (x) : rSameToL0E.run [] [] [] x = rSameToL0E.un (gE) x := by kernel_rfl
theorem aIh : rSameToL0E.Ok rSameToL0N := Le.k (fo f1 f1) g0 (aA (by kernel_rfl)) (aEa)
noncomputable abbrev rSameToE : Fe := ⟨77, Tryz.f77, [.s (.e (.sl (.st .tou))), .s (.e (.sl (.st .tou)))], [], [vb], []⟩
noncomputable def vH (p0 : rSameToL0E.T) (a b : List Tou) : Option rSameToE.Y := bif Int.ofNat a.length != Int.ofNat b.length then some ((false, ()), ()) else (p0 ((a, b, Int.ofNat a.length, 0, ()), ())).bind fun z => aH z (fun z => some ((true, ()), ())) fun z => some ((z.1.1, ()), ())
noncomputable def rSameToN : rSameToE.T := rSameToE.un (vH rSameToL0N)
theorem aNs (p0 : rSameToL0E.T) (x) : rSameToE.run [] [(4, rSameToL0E.on p0)] [] x = rSameToE.un (vH p0) x := by kernel_rfl
theorem rSameTo_ok : rSameToE.Ok rSameToN := Fe.k (by kernel_rfl) g0 (bD (by kernel_rfl) (lsc (by kernel_rfl) aIh rfl lsn)) (aNs rSameToL0N)
noncomputable abbrev rSameWL0E : Le := ⟨0, Tryz.f28, 0, [2, 3, 41, 42], [pm, .s (.ptr 1 0), vi, vi], [.box [.e (.st .wld)], .box [.e (.st .wld)]], ((Fin.one 0 Tryz.f28.ntmps (.exit 0) [] [] []).or (Fin.one 0 Tryz.f28.ntmps .ret [4] [vb] []))⟩
noncomputable def jY (p0 : rSameIE.T) (p1 : rSameOpE.T) (v2 v3 : Int) (v4 v5 : Wld) : Option (rSameWL0E.X ⊕ rSameWL0E.fin.Y) := bif decide (v3 < v2) then bif inR v3 v4.threads.length then bif inR v3 v5.threads.length then (p1 (((rdE (EK.st SN.thr) v4.threads v3).ops, (rdE (EK.st SN.thr) v5.threads v3).ops, ()), ())).bind fun z => bif !z.1.1 then some (Sum.inr (Sum.inr ((false, ()), ()))) else bif (rdE (EK.st SN.thr) v4.threads v3).at_ != (rdE (EK.st SN.thr) v5.threads v3).at_ then some (Sum.inr (Sum.inr ((false, ()), ()))) else bif !(rdE (EK.st SN.thr) v4.threads v3).busy == (rdE (EK.st SN.thr) v5.threads v3).busy then some (Sum.inr (Sum.inr ((false, ()), ()))) else (p0 (((rdE (EK.st SN.thr) v4.threads v3).got, (rdE (EK.st SN.thr) v5.threads v3).got, ()), ())).bind fun z => bif !z.1.1 then some (Sum.inr (Sum.inr ((false, ()), ()))) else some (Sum.inl (((), (), v2, w64 (v3 + 1), ()), (v4, ()), (v5, ()), ())) else none else none else some (Sum.inr (Sum.inl ((), ())))
noncomputable def rSameWL0N : rSameWL0E.T := rSameWL0E.lp (rSameWL0E.un (jY rSameIN rSameOpN))
theorem aIi (p0 : rSameIE.T) (p1 : rSameOpE.T) (x) : rSameWL0E.run [rSameIE.on p0, rSameOpE.on p1] [] [] x = rSameWL0E.un (jY p0 p1) x := by kernel_rfl
theorem aNt : rSameWL0E.Ok rSameWL0N := Le.k (fo f1 f1) (rSameI_ok.k (rSameOp_ok.k g0)) (aA (by kernel_rfl)) (aIi rSameIN rSameOpN)
noncomputable abbrev rSameWE : Fe := ⟨28, Tryz.f28, [.s (.e (.st .wld)), .s (.e (.st .wld))], [], [vb], []⟩
noncomputable def aAz (p0 : rSameIE.T) (p1 : rSameSE.T) (p2 : rSameOpE.T) (p3 : rSameEvE.T) (p4 : rSameToE.T) (p5 : rSameWL0E.T) (a b : Wld) : Option rSameWE.Y := (p1 ((a.shared, b.shared, ()), ())).bind fun z => bif !z.1.1 then some ((false, ()), ()) else bif Int.ofNat a.threads.length != Int.ofNat b.threads.length then some ((false, ()), ()) else (p3 ((a.events, b.events, ()), ())).bind fun z => bif !z.1.1 then some ((false, ()), ()) else (p4 ((a.touches, b.touches, ()), ())).bind fun z => bif !z.1.1 then some ((false, ()), ()) else (p5 (((), (), Int.ofNat a.threads.length, 0, ()), (a, ()), (b, ()), ())).bind fun z => aH z (fun z => some ((true, ()), ())) fun z => some ((z.1.1, ()), ())
noncomputable def rSameWN : rSameWE.T := rSameWE.un (aAz rSameIN rSameSN rSameOpN rSameEvN rSameToN rSameWL0N)
theorem aTq (p0 : rSameIE.T) (p1 : rSameSE.T) (p2 : rSameOpE.T) (p3 : rSameEvE.T) (p4 : rSameToE.T) (p5 : rSameWL0E.T) (x) : rSameWE.run [rSameIE.on p0, rSameSE.on p1, rSameOpE.on p2, rSameEvE.on p3, rSameToE.on p4] [(4, rSameWL0E.on p5)] [] x = rSameWE.un (aAz p0 p1 p2 p3 p4 p5) x := by kernel_rfl
theorem rSameW_ok : rSameWE.Ok rSameWN := Fe.k (by kernel_rfl) (rSameI_ok.k (rSameS_ok.k (rSameOp_ok.k (rSameEv_ok.k (rSameTo_ok.k g0))))) (bD (by kernel_rfl) (lsc (by kernel_rfl) aNt rfl lsn)) (aTq rSameIN rSameSN rSameOpN rSameEvN rSameToN rSameWL0N)
noncomputable abbrev rFewWL0E : Le := ⟨0, Tryz.f31, 0, [1, 2, 3, 4, 9, 12, 13, 14], [.s (.e (.sl (.sl (.st .opn)))), .s (.e (.sl .int)), vi, pm, vi, .s (.e (.sl (.sl (.st .opn)))), vi, vi], [.box [.e (.st .cfg)]], (Fin.one 0 Tryz.f31.ntmps (.exit 0) [1, 2, 3, 4, 9] [.s (.e (.sl (.sl (.st .opn)))), .s (.e (.sl .int)), vi, pm, vi] [.box [.e (.st .cfg)]])⟩
noncomputable def mR (v0 : List (List Opn)) (v1 : List Int) (v2 v4 : Int) (v5 : List (List Opn)) (v6 v7 : Int) (v8 : Cfg) : Option (rFewWL0E.X ⊕ rFewWL0E.fin.Y) := bif decide (v7 < v6) then bif inR v7 v5.length then some (Sum.inl ((v0, v1, v2, (), w64 (v4 + Int.ofNat (List.length (rdE (EK.st SN.opn).sl v5 v7))), v5, v6, w64 (v7 + 1), ()), (v8, ()), ())) else none else some (Sum.inr ((v0, v1, v2, (), v4, ()), (v8, ()), ()))
noncomputable def rFewWL0N : rFewWL0E.T := rFewWL0E.lp (rFewWL0E.un (mR))
theorem aNu (x) : rFewWL0E.run [] [] [] x = rFewWL0E.un (mR) x := by kernel_rfl
theorem aTr : rFewWL0E.Ok rFewWL0N := Le.k f1 g0 (aA (by kernel_rfl)) (aNu)
noncomputable abbrev rFewWE : Fe := ⟨31, Tryz.f31, [.s (.e (.st .cfg)), .s (.e (.sl (.sl (.st .opn)))), .s (.e (.sl .int)), vi], [], [vb], []⟩
noncomputable def aIj (p0 : rFewWL0E.T) (c : Cfg) (ops : List (List Opn)) (picks : List Int) (most : Int) : Option rFewWE.Y := (p0 ((ops, picks, most, (), 0, ops, Int.ofNat ops.length, 0, ()), (c, ()), ())).bind fun z => bif decide (z.2.1.1.nodes ≤ 8) then bif decide (z.2.1.1.edges ≤ 8) then bif decide (z.2.1.1.props ≤ 8) then bif decide (z.2.1.1.ids ≤ 10) then bif decide (z.2.1.1.edgeIds ≤ 10) then bif decide (Int.ofNat (List.length z.1.1) ≤ 4) then bif decide (z.1.2.2.2.2.1 ≤ z.1.2.2.1) then some ((decide (Int.ofNat (List.length z.1.2.1) ≤ 600), ()), ()) else some ((false, ()), ()) else some ((false, ()), ()) else some ((false, ()), ()) else some ((false, ()), ()) else some ((false, ()), ()) else some ((false, ()), ()) else some ((false, ()), ())
noncomputable def rFewWN : rFewWE.T := rFewWE.un (aIj rFewWL0N)
theorem bBb (p0 : rFewWL0E.T) (x) : rFewWE.run [] [(3, rFewWL0E.on p0)] [] x = rFewWE.un (aIj p0) x := by kernel_rfl
theorem rFewW_ok : rFewWE.Ok rFewWN := Fe.k (by kernel_rfl) g0 (bD (by kernel_rfl) (lsc (by kernel_rfl) aTr rfl lsn)) (bBb rFewWL0N)
noncomputable abbrev rCfgL0E : Le := ⟨0, Tryz.f48, 0, [15, 16, 17], [.s (.own 0), vi, vi], [.arr .int], ((Fin.one 0 Tryz.f48.ntmps (.exit 0) [] [] []).or (Fin.one 0 Tryz.f48.ntmps .ret [2] [vi] []))⟩
noncomputable def pF (v1 v2 : Int) (v3 : List Int) : Option (rCfgL0E.X ⊕ rCfgL0E.fin.Y) := bif decide (v2 < v1) then bif inR v2 v3.length then bif decide (rdE EK.int v3 v2 < 1) then some (Sum.inr (Sum.inr ((1, ()), ()))) else bif decide (rdE EK.int v3 v2 > 64) then some (Sum.inr (Sum.inr ((1, ()), ()))) else some (Sum.inl (((), v1, w64 (v2 + 1), ()), v3, ())) else none else some (Sum.inr (Sum.inl ((), ())))
noncomputable def rCfgL0N : rCfgL0E.T := rCfgL0E.lp (rCfgL0E.un (pF))
theorem aTs (x) : rCfgL0E.run [] [] [] x = rCfgL0E.un (pF) x := by kernel_rfl
theorem bBc : rCfgL0E.Ok rCfgL0N := Le.k (fo f1 f1) g0 (aA (by kernel_rfl)) (aTs)
noncomputable abbrev rCfgE : Fe := ⟨48, Tryz.f48, [.s (.e (.st .cfg))], [], [vi], []⟩
noncomputable def aWk (p0 : rCfgL0E.T) (c : Cfg) : Option rCfgE.Y := (p0 (((), Int.ofNat [c.nodes, c.edges, c.props, c.ids, c.edgeIds].length, 0, ()), [c.nodes, c.edges, c.props, c.ids, c.edgeIds], ())).bind fun z => aH z (fun z => some ((0, ()), ())) fun z => some ((z.1.1, ()), ())
noncomputable def rCfgN : rCfgE.T := rCfgE.un (aWk rCfgL0N)
theorem bGs (p0 : rCfgL0E.T) (x) : rCfgE.run [] [(2, rCfgL0E.on p0)] [] x = rCfgE.un (aWk p0) x := by kernel_rfl
theorem rCfg_ok : rCfgE.Ok rCfgN := Fe.k (by kernel_rfl) g0 (bD (by kernel_rfl) (lsc (by kernel_rfl) bBc rfl lsn)) (bGs rCfgL0N)
theorem xZ {a : List Int} (h : a.length ≤ 1000000000) : rSameIN ((a, a, ()), ()) = some ((true, ()), ()) := by
 show aAu rSameIL0N a a = _
 unfold aAu
 have hL : rSameIL0N ((a, a, Int.ofNat a.length, 0, ()), ()) = some (.inl ((), ())) := by
  refine vY (B := rSameIL0E.un jX) (fun i => ((a, a, Int.ofNat a.length, (i : Int), ()), ())) (k := a.length) (by omega) (fun i hi =>?_) ?_
  ·show jX a a (Int.ofNat a.length) (i : Int) = _
   unfold jX
   rw [decide_eq_true (by simp; omega), aU hi, gH hi (by omega), bne_self_eq_false]
   rfl
  ·show jX a a (Int.ofNat a.length) (a.length : Int) = _
   unfold jX
   rw [decide_eq_false (by simp)]
   rfl
 rw [bne_self_eq_false, hL]
 rfl
theorem bMe {a : List Pr} (h : a.length ≤ 1000000000) : rSamePrN ((a, a, ()), ()) = some ((true, ()), ()) := by
 show vD rSamePrL0N a a = _
 unfold vD
 have hL : rSamePrL0N ((a, a, Int.ofNat a.length, 0, ()), ()) = some (.inl ((), ())) := by
  refine vY (B := rSamePrL0E.un fZ) (fun i => ((a, a, Int.ofNat a.length, (i : Int), ()), ())) (k := a.length) (by omega) (fun i hi =>?_) ?_
  ·show fZ a a (Int.ofNat a.length) (i : Int) = _
   unfold fZ
   rw [decide_eq_true (by simp; omega), aU hi, gH hi (by omega), beq_self_eq_true, beq_self_eq_true]
   rfl
  ·show fZ a a (Int.ofNat a.length) (a.length : Int) = _
   unfold fZ
   rw [decide_eq_false (by simp)]
   rfl
 rw [bne_self_eq_false, hL]
 rfl
theorem bGt {a : List En} (h : a.length ≤ 1000000000) : rSameEnN ((a, a, ()), ()) = some ((true, ()), ()) := by
 show vE rSameEnL0N a a = _
 unfold vE
 have hL : rSameEnL0N ((a, a, Int.ofNat a.length, 0, ()), ()) = some (.inl ((), ())) := by
  refine vY (B := rSameEnL0E.un gA) (fun i => ((a, a, Int.ofNat a.length, (i : Int), ()), ())) (k := a.length) (by omega) (fun i hi =>?_) ?_
  ·show gA a a (Int.ofNat a.length) (i : Int) = _
   unfold gA
   rw [decide_eq_true (by simp; omega), aU hi, gH hi (by omega), beq_self_eq_true, beq_self_eq_true]
   rfl
  ·show gA a a (Int.ofNat a.length) (a.length : Int) = _
   unfold gA
   rw [decide_eq_false (by simp)]
   rfl
 rw [bne_self_eq_false, hL]
 rfl
theorem bNh {r : Res} (h : Sm r) : rSameRN ((r, r, ()), ()) = some ((true, ()), ()) := by
 show aAy rSamePrN rSameEnN r r = _
 unfold aAy
 rw [beq_self_eq_true, beq_self_eq_true, bMe (by have := h.1; omega), bGt (by have := h.2.1; omega), bGt (by have := h.2.2; omega)]
 rfl
theorem bMf {a : List Opn} (h : a.length ≤ 1000000000) : rSameOpN ((a, a, ()), ()) = some ((true, ()), ()) := by
 show vF rSameOpL0N a a = _
 unfold vF
 have hL : rSameOpL0N ((a, a, Int.ofNat a.length, 0, ()), ()) = some (.inl ((), ())) := by
  refine vY (B := rSameOpL0E.un gB) (fun i => ((a, a, Int.ofNat a.length, (i : Int), ()), ())) (k := a.length) (by omega) (fun i hi =>?_) ?_
  ·show gB a a (Int.ofNat a.length) (i : Int) = _
   unfold gB
   rw [decide_eq_true (by simp; omega), aU hi, gH hi (by omega)]
   simp only [beq_self_eq_true, Bool.and_self]
   rfl
  ·show gB a a (Int.ofNat a.length) (a.length : Int) = _
   unfold gB
   rw [decide_eq_false (by simp)]
   rfl
 rw [bne_self_eq_false, hL]
 rfl
theorem bMg {a : List Tou} (h : a.length ≤ 1000000000) : rSameToN ((a, a, ()), ()) = some ((true, ()), ()) := by
 show vH rSameToL0N a a = _
 unfold vH
 have hL : rSameToL0N ((a, a, Int.ofNat a.length, 0, ()), ()) = some (.inl ((), ())) := by
  refine vY (B := rSameToL0E.un gE) (fun i => ((a, a, Int.ofNat a.length, (i : Int), ()), ())) (k := a.length) (by omega) (fun i hi =>?_) ?_
  ·show gE a a (Int.ofNat a.length) (i : Int) = _
   unfold gE
   rw [decide_eq_true (by simp; omega), aU hi, gH hi (by omega)]
   simp only [beq_self_eq_true, Bool.and_self]
   rfl
  ·show gE a a (Int.ofNat a.length) (a.length : Int) = _
   unfold gE
   rw [decide_eq_false (by simp)]
   rfl
 rw [bne_self_eq_false, hL]
 rfl
theorem bGu {a : List Ev} (h : a.length ≤ 1000000000) (hr : ∀ e ∈ a, Sm e.result) : rSameEvN ((a, a, ()), ()) = some ((true, ()), ()) := by
 show vG rSameRN rSameEvL0N a a = _
 unfold vG
 have hL : rSameEvL0N ((a, a, Int.ofNat a.length, 0, ()), ()) = some (.inl ((), ())) := by
  refine vY (B := rSameEvL0E.un (gC rSameRN)) (fun i => ((a, a, Int.ofNat a.length, (i : Int), ()), ())) (k := a.length) (by omega) (fun i hi =>?_) ?_
  ·show gC rSameRN a a (Int.ofNat a.length) (i : Int) = _
   unfold gC
   rw [decide_eq_true (by simp; omega), aU hi, gH hi (by omega), bNh (hr _ (pE (e := EK.st SN.ev) (aU hi)))]
   simp only [beq_self_eq_true, Bool.and_self, bne_self_eq_false]
   rfl
  ·show gC rSameRN a a (Int.ofNat a.length) (a.length : Int) = _
   unfold gC
   rw [decide_eq_false (by simp)]
   rfl
 rw [bne_self_eq_false, hL]
 rfl
theorem bGv {p : Pool} (h : pX p) : rSamePN ((p, p, ()), ()) = some ((true, ()), ()) := by
 show aAv rSameIN p p = _
 unfold aAv
 rw [xZ h.1, xZ h.2.1, xZ h.2.2.1, xZ h.2.2.2]
 rfl
theorem bNi {e : Era} (h : e.pins.length ≤ 1000000000) : rSameEN ((e, e, ()), ()) = some ((true, ()), ()) := by
 show aAw rSameIN e e = _
 unfold aAw
 rw [beq_self_eq_true, xZ h]
 rfl
theorem bKv {s : Shr} (h : ShS s) : rSameSN ((s, s, ()), ()) = some ((true, ()), ()) := by
 show aAx rSameIN rSamePN rSameEN s s = _
 unfold aAx
 rw [bGv h.p0, bGv h.p1, bGv h.p2, bNi h.era, xZ h.mem, xZ h.lat]
 rfl
theorem bKw {n : Nat} {c : Cfg} {w : Wld} (hw : WOk n c w) (hn : n ≤ 100000) : rSameWN ((w, w, ()), ()) = some ((true, ()), ()) := by
 show aAz rSameIN rSameSN rSameOpN rSameEvN rSameToN rSameWL0N w w = _
 unfold aAz
 have htl := hw.tl
 have hL : rSameWL0N (((), (), Int.ofNat w.threads.length, 0, ()), (w, ()), (w, ()), ()) = some (.inl ((), ())) := by
  refine vY (B := rSameWL0E.un (jY rSameIN rSameOpN)) (fun i => (((), (), Int.ofNat w.threads.length, (i : Int), ()), (w, ()), (w, ()), ())) (k := w.threads.length) (by omega) (fun i hi =>?_) ?_
  ·show jY rSameIN rSameOpN (Int.ofNat w.threads.length) (i : Int) w w = _
   unfold jY
   have hx := hw.th _ (pE (e := EK.st SN.thr) (aU hi))
   rw [decide_eq_true (by simp; omega), aU hi, gH hi (by omega), bMf (by have := hx.ol; omega), xZ (by have := hx.gl; omega)]
   simp only [beq_self_eq_true, Bool.and_self, bne_self_eq_false]
   rfl
  ·show jY rSameIN rSameOpN (Int.ofNat w.threads.length) (w.threads.length : Int) w w = _
   unfold jY
   rw [decide_eq_false (by simp)]
   rfl
 rw [bKv hw.sh.s, bGu (by have := hw.ev; omega) hw.er, bMg (by have := hw.to; omega), hL, bne_self_eq_false]
 rfl
theorem bJh (c : Cfg) : rCfgN ((c, ()), ()) = some ((bif cM c then 0 else 1, ()), ()) := by
 show aWk rCfgL0N c = _
 unfold aWk
 generalize hl : [c.nodes, c.edges, c.props, c.ids, c.edgeIds] = l
 have hlen : l.length = 5 := by rw [← hl]; rfl
 have hL : rCfgL0N (((), Int.ofNat l.length, 0, ()), l, ()) = some (aH (dA (fun (_ : Unit) (_ : Nat) (x : Int) => bif decide (x < 1) || decide (x > 64) then Sum.inr (1 : Int) else Sum.inl ()) 0 l ()) (fun _ => .inl ((), ())) fun e => .inr ((e, ()), ())) := by
  refine lpL (B := rCfgL0E.un pF) (fun (_ : Unit) (_ : Nat) (x : Int) => bif decide (x < 1) || decide (x > 64) then Sum.inr (1 : Int) else Sum.inl ()) (l := l) (fun i _ => (((), Int.ofNat l.length, (i : Int), ()), l, ())) (yl := fun _ => .inl ((), ())) (yr := fun e => .inr ((e, ()), ())) (fun _ _ => True) (by omega) trivial (fun _ _ _ _ _ _ => trivial) (fun i s hi _ =>?_) (fun s _ =>?_)
  ·show pF (Int.ofNat l.length) (i : Int) l = _
   unfold pF
   rw [decide_eq_true (by simp; omega), aU hi, cV (e := .int) l i hi, gH hi (by omega)]
   cases decide (l[i] < 1) <;> cases decide (l[i] > 64) <;> rfl
  ·show pF (Int.ofNat l.length) (l.length : Int) l = _
   unfold pF
   rw [decide_eq_false (by simp)]
   rfl
 rw [hL]
 have key : ∀ (l : List Int) (i : Nat), dA (fun (_ : Unit) (_ : Nat) (x : Int) => bif decide (x < 1) || decide (x > 64) then Sum.inr (1 : Int) else Sum.inl ()) i l () = bif l.all (fun x => decide (1 ≤ x ∧ x ≤ 64)) then .inl () else .inr 1 := fun l => by
  induction l with
  | nil => intro i; rfl
  | cons x l ih =>
   intro i
   simp only [dA, List.all_cons]
   by_cases h : 1 ≤ x ∧ x ≤ 64
   ·rw [show (decide (x < 1) || decide (x > 64)) = false by simp; omega, show decide (1 ≤ x ∧ x ≤ 64) = true from decide_eq_true h]
    simp only [cond_false, Bool.true_and]
    exact ih (i + 1)
   ·rw [show (decide (x < 1) || decide (x > 64)) = true by simp; omega, show decide (1 ≤ x ∧ x ≤ 64) = false from decide_eq_false h]
    rfl
 rw [key l 0]
 have e : l.all (fun x => decide (1 ≤ x ∧ x ≤ 64)) = cM c := by
  rw [← hl]
  cases h : cM c with
  | true =>
   have := pV h
   refine List.all_eq_true.2 (fun x hx => decide_eq_true ?_)
   simp at hx
   omega
  | false =>
   have h2 := of_decide_eq_false h
   refine Bool.eq_false_iff.2 (fun h3 => h2 ?_)
   have h4 := fun x hx => of_decide_eq_true (List.all_eq_true.1 h3 x hx)
   have a1 := h4 c.nodes (by simp)
   have a2 := h4 c.edges (by simp)
   have a3 := h4 c.props (by simp)
   have a4 := h4 c.ids (by simp)
   have a5 := h4 c.edgeIds (by simp)
   omega
 rw [e]
 cases cM c <;> rfl
def sumL (ops : List (List Opn)) : Nat := (ops.map List.length).foldl (· + ·) 0
def wV (ops : List (List Opn)) : Int := ops.foldl (fun a l => w64 (a + Int.ofNat l.length)) 0
theorem bGw (a : List (List Opn)) (x : List Opn) : sumL (a ++ [x]) = sumL a + x.length := by simp [sumL]
theorem aNv (a : List (List Opn)) (x : List Opn) : wV (a ++ [x]) = w64 (wV a + Int.ofNat x.length) := by simp [wV]
theorem bJi {ops : List (List Opn)} (h1 : ops.length ≤ 4) (h2 : ∀ l ∈ ops, l.length ≤ 100000000000000000) : wV ops = (sumL ops : Int) := by
 have hb : ∀ i, i ≤ ops.length → sumL (ops.take i) ≤ i * 100000000000000000 ∧ wV (ops.take i) = (sumL (ops.take i) : Int) := fun i => by
  induction i with
  | zero => intro _; simp [sumL, wV]
  | succ i ih =>
   intro hi
   have hl : i < ops.length := by omega
   have h3 := h2 _ (List.getElem_mem hl)
   obtain ⟨h4, h5⟩ := ih (by omega)
   rw [List.take_succ_eq_append_getElem hl, bGw, aNv, h5]
   refine ⟨by omega, ?_⟩
   rw [bF (by simp; omega) (by simp; omega)]
   simp
 have := hb ops.length (Nat.le_refl _)
 rw [List.take_length] at this
 exact this.2
def fewW (c : Cfg) (ops : List (List Opn)) (picks : List Int) (most : Int) : Bool := decide (c.nodes ≤ 8) && (decide (c.edges ≤ 8) && (decide (c.props ≤ 8) && (decide (c.ids ≤ 10) && (decide (c.edgeIds ≤ 10) && (decide (Int.ofNat ops.length ≤ 4) && (decide (wV ops ≤ most) && decide (Int.ofNat picks.length ≤ 600)))))))
theorem bMh (c : Cfg) {ops : List (List Opn)} (picks : List Int) (most : Int) (h1 : ops.length ≤ 100000000000000000) : rFewWN ((c, ops, picks, most, ()), ()) = some ((fewW c ops picks most, ()), ()) := by
 show aIj rFewWL0N c ops picks most = _
 unfold aIj
 have hL : rFewWL0N ((ops, picks, most, (), 0, ops, Int.ofNat ops.length, 0, ()), (c, ()), ()) = some ((ops, picks, most, (), wV ops, ()), (c, ()), ()) := by
  have := vY (B := rFewWL0E.un mR) (fun i => ((ops, picks, most, (), wV (ops.take i), ops, Int.ofNat ops.length, (i : Int), ()), (c, ()), ())) (k := ops.length) (y := ((ops, picks, most, (), wV ops, ()), (c, ()), ())) (by omega) (fun i hi =>?_) ?_
  ·exact this
  ·show mR ops picks most (wV (ops.take i)) ops (Int.ofNat ops.length) (i : Int) c = _
   unfold mR
   rw [decide_eq_true (by simp; omega), aU hi, gH hi (by omega), cV (e := (EK.st SN.opn).sl) ops i hi, List.take_succ_eq_append_getElem hi, aNv]
   rfl
  ·show mR ops picks most (wV (ops.take ops.length)) ops (Int.ofNat ops.length) (ops.length : Int) c = _
   unfold mR
   rw [decide_eq_false (by simp), List.take_length]
   rfl
 rw [hL]
 unfold fewW
 simp only [Option.bind_some]
 cases decide (c.nodes ≤ 8)
 ·rfl
 cases decide (c.edges ≤ 8)
 ·rfl
 cases decide (c.props ≤ 8)
 ·rfl
 cases decide (c.ids ≤ 10)
 ·rfl
 cases decide (c.edgeIds ≤ 10)
 ·rfl
 cases decide (Int.ofNat ops.length ≤ 4)
 ·rfl
 cases decide (wV ops ≤ most) <;> rfl
end Go.Ax.Cd
