/- Merged. -/
import Derived.Test.YthcfkplfmjcmoaaGreatDoorQ33
import Derived.Test.YthcfkplfmjcmoaaGreatDoorQ17
import Derived.Test.YthcfkplfmjcmoaaGreatDoorQ18
import Derived.Test.YthcfkplfmjcmoaaGreatDoorQ32
namespace Go.Ax.Cd
open Go.Proofs
set_option linter.unusedVariables false
set_option maxRecDepth 100000
noncomputable abbrev conE (n : Nat) (f : Func) (k : EK) : Fe := ⟨n, f, [.s (.e (.sl (.sl k)))], [], [.s (.e (.sl k))], []⟩
noncomputable def conN (n : Nat) (f : Func) (k : EK) : (conE n f k).T := fun x => bif decide ((List.flatten x.1.1).length ≤ 1000000000) && decide (x.1.1.length ≤ 1000000000) then some ((List.flatten x.1.1, ()), ()) else none
theorem lT {α : Type} {l : List (List α)} {i : Nat} (h : i < l.length) : List.flatten (l.take (i + 1)) = List.flatten (l.take i) ++ l[i] := by
 rw [List.take_succ_eq_append_getElem h, List.flatten_append]
 simp
theorem aWd {α : Type} (l : List (List α)) (i : Nat) : (List.flatten (l.take i)).length ≤ (List.flatten l).length := by
 have := congrArg (fun l => (List.flatten l).length) (List.take_append_drop i l)
 simp only [List.flatten_append, List.length_append] at this
 omega
theorem lpK {X Y : Type} {B : X → Option (X ⊕ Y)} {st : Nat → X} {k : Nat} {y : Y} (h1 : ∀ i, i < k → B (st i) = some (.inl (st (i + 1)))) (h2 : B (st k) = some (.inr y)) : ∀ (m j : Nat), j ≤ k → k - j < m → cZ B m (st j) = some y
 | 0, j, hj, hm => by omega
 | m + 1, j, hj, hm => by
  simp only [cZ]
  by_cases h : j = k
  ·subst h
   rw [h2]
   rfl
  ·rw [h1 j (by omega)]
   exact lpK h1 h2 m (j + 1) (by omega) (by omega)
theorem aTg {P : Program} {gl : Glb} {f : Nat} {vs rs : List Vh} {os os' : List OSh} {s1 s2 : VhL vs × OShL os → Option (VhL rs × OShL os')} (h : aK P gl f (Con.of vs os rs os' s1)) (hs : ∀ x y, s2 x = some y → s1 x = some y) : aK P gl f (Con.of vs os rs os' s2) :=
 fun av hh x y hd hy => h av hh x y hd (hs x y hy)
theorem bJa {l : List (List Opn)} (h1 : (List.flatten l).length ≤ 1000000000) (h2 : l.length ≤ 1000000000) : catON ((l, ()), ()) = some ((List.flatten l, ()), ()) := by
 show aWb groON catOL0N catOL1N l = _
 unfold aWb
 have hr : ∀ i (h : i < l.length), rdE (EK.st SN.opn).sl l (i : Int) = l[i] := fun i h => by simp [rdE, rd, h]
 have hi' : ∀ i, i < l.length → inR (i : Int) l.length = true := fun i h => by simp [inR]; omega
 have hf : ∀ i (h : i < l.length), (List.flatten (l.take i)).length + l[i].length ≤ 1000000000 := fun i h => by
  have := aWd l (i + 1)
  rw [lT h, List.length_append] at this
  omega
 have hL0 : catOL0N ((l, 0, l, Int.ofNat l.length, 0, ()), ()) = some ((l, Int.ofNat (List.flatten l).length, ()), ()) := by
  have := lpK (B := catOL0E.un pA) (st := fun i => ((l, Int.ofNat (List.flatten (l.take i)).length, l, Int.ofNat l.length, (i : Int), ()), ())) (k := l.length) (y := ((l, Int.ofNat (List.flatten l).length, ()), ())) (fun i hi =>?_) ?_ FU 0 (by omega) (by unfold FU; omega)
  ·exact this
  ·show pA l (Int.ofNat (List.flatten (l.take i)).length) l (Int.ofNat l.length) (i : Int) = _
   unfold pA
   have := hf i hi
   rw [decide_eq_true (by simp; omega), hi' i hi, hr i hi, aD (n := Int.ofNat (List.flatten (l.take i)).length + Int.ofNat l[i].length) (by simp only [Int.ofNat_eq_natCast]; omega) (by simp only [Int.ofNat_eq_natCast]; omega), decide_eq_false (by simp only [Int.ofNat_eq_natCast]; omega), aD (n := (i : Int) + 1) (by omega) (by omega), lT hi]
   simp
  ·show pA l (Int.ofNat (List.flatten (l.take l.length)).length) l (Int.ofNat l.length) (l.length : Int) = _
   unfold pA
   rw [decide_eq_false (by simp), List.take_length]
   rfl
 have hL1 : catOL1N (((), l, Int.ofNat l.length, 0, ()), [], ()) = some (((), ()), List.flatten l, ()) := by
  have := lpK (B := catOL1E.un oZ) (st := fun i => (((), l, Int.ofNat l.length, (i : Int), ()), List.flatten (l.take i), ())) (k := l.length) (y := (((), ()), List.flatten l, ())) (fun i hi =>?_) ?_ FU 0 (by omega) (by unfold FU; omega)
  ·exact this
  ·show oZ l (Int.ofNat l.length) (i : Int) (List.flatten (l.take i)) = _
   unfold oZ
   rw [decide_eq_true (by simp; omega), hi' i hi, hr i hi, decide_eq_true (hf i hi), aD (n := (i : Int) + 1) (by omega) (by omega), lT hi]
   rfl
  ·show oZ l (Int.ofNat l.length) (l.length : Int) (List.flatten (l.take l.length)) = _
   unfold oZ
   rw [decide_eq_false (by simp), List.take_length]
   rfl
 have hg : groON (((), Int.ofNat (List.flatten l).length, ()), ()) = some (((), ()), ([], ())) := by
  show (bif decide (0 ≤ Int.ofNat (List.flatten l).length) && decide (Int.ofNat (List.flatten l).length ≤ 1000000000) then some (((), ()), ([], ())) else none) = _
  rw [decide_eq_true (show 0 ≤ Int.ofNat (List.flatten l).length from Int.natCast_nonneg _), decide_eq_true (show Int.ofNat (List.flatten l).length ≤ 1000000000 by simp only [Int.ofNat_eq_natCast]; omega)]
  rfl
 rw [hL0]
 simp only [Option.bind_some]
 rw [hg]
 simp only [Option.bind_some]
 rw [hL1]
 rfl
theorem bMa : aK Tryz.prog gl 68 (Con.of [.s (.e (.sl (.sl (.st .opn))))] [] [.s (.e (.sl (.st .opn)))] [] (conN 68 Tryz.f68 (.st .opn))) :=
 aTg catO_ok.s (fun ⟨⟨l, _⟩, _⟩ y hy => by
  have hy2 : (bif decide ((List.flatten l).length ≤ 1000000000) && decide (l.length ≤ 1000000000) then some ((List.flatten l, ()), ()) else none) = some y := hy
  cases e : (decide ((List.flatten l).length ≤ 1000000000) && decide (l.length ≤ 1000000000)) with
  | false => rw [e] at hy2; cases hy2
  | true =>
   rw [e] at hy2
   cases hy2
   simp only [Bool.and_eq_true, decide_eq_true_eq] at e
   exact bJa e.1 e.2)
theorem bMb : (conE 68 Tryz.f68 (.st .opn)).Ok (conN 68 Tryz.f68 (.st .opn)) := ⟨catO_ok.c, bMa⟩
theorem bJb {l : List (List Tou)} (h1 : (List.flatten l).length ≤ 1000000000) (h2 : l.length ≤ 1000000000) : catTN ((l, ()), ()) = some ((List.flatten l, ()), ()) := by
 show aWc groTN catTL0N catTL1N l = _
 unfold aWc
 have hr : ∀ i (h : i < l.length), rdE (EK.st SN.tou).sl l (i : Int) = l[i] := fun i h => by simp [rdE, rd, h]
 have hi' : ∀ i, i < l.length → inR (i : Int) l.length = true := fun i h => by simp [inR]; omega
 have hf : ∀ i (h : i < l.length), (List.flatten (l.take i)).length + l[i].length ≤ 1000000000 := fun i h => by
  have := aWd l (i + 1)
  rw [lT h, List.length_append] at this
  omega
 have hL0 : catTL0N ((l, 0, l, Int.ofNat l.length, 0, ()), ()) = some ((l, Int.ofNat (List.flatten l).length, ()), ()) := by
  have := lpK (B := catTL0E.un pC) (st := fun i => ((l, Int.ofNat (List.flatten (l.take i)).length, l, Int.ofNat l.length, (i : Int), ()), ())) (k := l.length) (y := ((l, Int.ofNat (List.flatten l).length, ()), ())) (fun i hi =>?_) ?_ FU 0 (by omega) (by unfold FU; omega)
  ·exact this
  ·show pC l (Int.ofNat (List.flatten (l.take i)).length) l (Int.ofNat l.length) (i : Int) = _
   unfold pC
   have := hf i hi
   rw [decide_eq_true (by simp; omega), hi' i hi, hr i hi, aD (n := Int.ofNat (List.flatten (l.take i)).length + Int.ofNat l[i].length) (by simp only [Int.ofNat_eq_natCast]; omega) (by simp only [Int.ofNat_eq_natCast]; omega), decide_eq_false (by simp only [Int.ofNat_eq_natCast]; omega), aD (n := (i : Int) + 1) (by omega) (by omega), lT hi]
   simp
  ·show pC l (Int.ofNat (List.flatten (l.take l.length)).length) l (Int.ofNat l.length) (l.length : Int) = _
   unfold pC
   rw [decide_eq_false (by simp), List.take_length]
   rfl
 have hL1 : catTL1N (((), l, Int.ofNat l.length, 0, ()), [], ()) = some (((), ()), List.flatten l, ()) := by
  have := lpK (B := catTL1E.un pB) (st := fun i => (((), l, Int.ofNat l.length, (i : Int), ()), List.flatten (l.take i), ())) (k := l.length) (y := (((), ()), List.flatten l, ())) (fun i hi =>?_) ?_ FU 0 (by omega) (by unfold FU; omega)
  ·exact this
  ·show pB l (Int.ofNat l.length) (i : Int) (List.flatten (l.take i)) = _
   unfold pB
   rw [decide_eq_true (by simp; omega), hi' i hi, hr i hi, decide_eq_true (hf i hi), aD (n := (i : Int) + 1) (by omega) (by omega), lT hi]
   rfl
  ·show pB l (Int.ofNat l.length) (l.length : Int) (List.flatten (l.take l.length)) = _
   unfold pB
   rw [decide_eq_false (by simp), List.take_length]
   rfl
 have hg : groTN (((), Int.ofNat (List.flatten l).length, ()), ()) = some (((), ()), ([], ())) := by
  show (bif decide (0 ≤ Int.ofNat (List.flatten l).length) && decide (Int.ofNat (List.flatten l).length ≤ 1000000000) then some (((), ()), ([], ())) else none) = _
  rw [decide_eq_true (show 0 ≤ Int.ofNat (List.flatten l).length from Int.natCast_nonneg _), decide_eq_true (show Int.ofNat (List.flatten l).length ≤ 1000000000 by simp only [Int.ofNat_eq_natCast]; omega)]
  rfl
 rw [hL0]
 simp only [Option.bind_some]
 rw [hg]
 simp only [Option.bind_some]
 rw [hL1]
 rfl
theorem bMc : aK Tryz.prog gl 75 (Con.of [.s (.e (.sl (.sl (.st .tou))))] [] [.s (.e (.sl (.st .tou)))] [] (conN 75 Tryz.f75 (.st .tou))) :=
 aTg catT_ok.s (fun ⟨⟨l, _⟩, _⟩ y hy => by
  have hy2 : (bif decide ((List.flatten l).length ≤ 1000000000) && decide (l.length ≤ 1000000000) then some ((List.flatten l, ()), ()) else none) = some y := hy
  cases e : (decide ((List.flatten l).length ≤ 1000000000) && decide (l.length ≤ 1000000000)) with
  | false => rw [e] at hy2; cases hy2
  | true =>
   rw [e] at hy2
   cases hy2
   simp only [Bool.and_eq_true, decide_eq_true_eq] at e
   exact bJb e.1 e.2)
theorem bMd : (conE 75 Tryz.f75 (.st .tou)).Ok (conN 75 Tryz.f75 (.st .tou)) := ⟨catT_ok.c, bMc⟩
noncomputable abbrev nxtE : Fe := ⟨59, Tryz.f59, [.s (.e (.st .cfg)), .s (.e (.st .opn)), .s (.e (.sl .int))], [], [.s (.e (.st .acc)), .s (.e (.st .res)), vb], []⟩
noncomputable def nxtN : nxtE.T := bGg
theorem nxt_ok : nxtE.Ok nxtN := ⟨⟨Tryz.f59, body Tryz.f59, by kernel_rfl, by kernel_rfl, by kernel_rfl⟩, bGh⟩
def kU (l : List Int) : Option Opn := match l with
 | [k, a, b, x, v] =>
  if k = 1 then some ⟨1, 0, 0, 0, 0⟩ else if k = 2 ∨ k = 9 then some ⟨k, a, b, 0, 0⟩ else if k = 4 then some ⟨4, a, 0, x, v⟩ else if k = 5 then some ⟨5, a, 0, x, 0⟩
  else if k = 3 ∨ k = 6 ∨ k = 7 ∨ k = 8 then some ⟨k, a, 0, 0, 0⟩ else none
 | _ => none
def kV : Nat → List Int → List Opn
 | 0, _ => []
 | n + 1, l => (kU (l.take 5)).toList ++ kV n (l.drop 5)
noncomputable abbrev lopE (n : Nat) (f : Func) : Fe := ⟨n, f, [.s (.e (.sl .int))], [], [.s (.e (.sl (.st .opn)))], []⟩
noncomputable def lopN (n : Nat) (f : Func) : (lopE n f).T := fun x => bif decide (x.1.1.length ≤ 1000000) then some ((kV x.1.1.length x.1.1, ()), ()) else none
noncomputable abbrev clnTE : Fe := clnE 73 Tryz.f73 (.st .thr)
noncomputable abbrev clnTN : clnTE.T := clnN 73 Tryz.f73 (.st .thr)
theorem clnT_ok : clnTE.Ok clnTN := aOx (by kernel_rfl) (aA (by kernel_rfl)) (fun x => by kernel_rfl) (fun x => by kernel_rfl)
noncomputable abbrev clnVE : Fe := clnE 74 Tryz.f74 (.st .ev)
noncomputable abbrev clnVN : clnVE.T := clnN 74 Tryz.f74 (.st .ev)
theorem clnV_ok : clnVE.Ok clnVN := aOx (by kernel_rfl) (aA (by kernel_rfl)) (fun x => by kernel_rfl) (fun x => by kernel_rfl)
noncomputable abbrev conTE : Fe := conE 75 Tryz.f75 (.st .tou)
noncomputable abbrev conTN : conTE.T := conN 75 Tryz.f75 (.st .tou)
theorem conT_ok : conTE.Ok conTN := bMd
noncomputable abbrev trnThrE : Fe := ⟨71, Tryz.f71, [.s (.e (.st .wld)), vi], [], [.s (.e (.st .thr)), vb], []⟩
noncomputable def aAr (w : Wld) (t : Int) : Option trnThrE.Y := bif decide (t < 0) then some ((Thr.mk [] 0 false [], false, ()), ()) else bif decide (t ≥ Int.ofNat w.threads.length) then some ((Thr.mk [] 0 false [], false, ()), ()) else bif inR t w.threads.length then bif decide ((rdE (EK.st SN.thr) w.threads t).at_ ≥ 0) then some ((rdE (EK.st SN.thr) w.threads t, decide ((rdE (EK.st SN.thr) w.threads t).at_ < Int.ofNat (rdE (EK.st SN.thr) w.threads t).ops.length), ()), ()) else some ((rdE (EK.st SN.thr) w.threads t, false, ()), ()) else none
noncomputable def trnThrN : trnThrE.T := trnThrE.un aAr
theorem aTh (x) : trnThrE.run [] [] [] x = trnThrE.un (aAr) x := by kernel_rfl
theorem trnThr_ok : trnThrE.Ok trnThrN := Fe.k (by kernel_rfl) g0 (aA (by kernel_rfl)) (aTh)
noncomputable abbrev trnDonE : Fe := ⟨35, Tryz.f35, [.s (.e (.st .wld)), vi], [], [vb], []⟩
noncomputable def aWe (w : Wld) (t : Int) : Option trnDonE.Y := bif decide (t < 0) then some ((false, ()), ()) else bif decide (t ≥ Int.ofNat w.threads.length) then some ((false, ()), ()) else bif inR t w.threads.length then bif !(rdE (EK.st SN.thr) w.threads t).busy then some ((decide ((rdE (EK.st SN.thr) w.threads t).at_ ≥ Int.ofNat (rdE (EK.st SN.thr) w.threads t).ops.length), ()), ()) else some ((false, ()), ()) else none
noncomputable def trnDonN : trnDonE.T := trnDonE.un aWe
theorem aTi (x) : trnDonE.run [] [] [] x = trnDonE.un (aWe) x := by kernel_rfl
theorem trnDon_ok : trnDonE.Ok trnDonN := Fe.k (by kernel_rfl) g0 (aA (by kernel_rfl)) (aTi)
noncomputable abbrev trnAskE : Fe := ⟨26, Tryz.f26, [.s (.e (.st .cfg)), .s (.e (.st .wld)), vi], [], [.s (.e (.st .acc)), vb], []⟩
noncomputable def aAs (p0 : nxtE.T) (p1 : trnThrE.T) (c : Cfg) (w : Wld) (t : Int) : Option trnAskE.Y := (p1 ((w, t, ()), ())).bind fun z => bif !z.1.2.1 then some ((Acc.mk 0 0 0 0 0 0, false, ()), ()) else bif !z.1.1.busy then bif inR z.1.1.at_ z.1.1.ops.length then (p0 ((c, rdE (EK.st SN.opn) z.1.1.ops z.1.1.at_, [], ()), ())).bind fun z => some ((z.1.1, !z.1.2.2.1, ()), ()) else none else bif inR z.1.1.at_ z.1.1.ops.length then (p0 ((c, rdE (EK.st SN.opn) z.1.1.ops z.1.1.at_, z.1.1.got, ()), ())).bind fun z => some ((z.1.1, !z.1.2.2.1, ()), ()) else none
noncomputable def trnAskN : trnAskE.T := trnAskE.un (aAs nxtN trnThrN)
theorem aTj (p0 : nxtE.T) (p1 : trnThrE.T) (x) : trnAskE.run [nxtE.on p0, trnThrE.on p1] [] [] x = trnAskE.un (aAs p0 p1) x := by kernel_rfl
theorem trnAsk_ok : trnAskE.Ok trnAskN := Fe.k (by kernel_rfl) (nxt_ok.k (trnThr_ok.k g0)) (aA (by kernel_rfl)) (aTj nxtN trnThrN)
noncomputable abbrev trnStpE : Fe := ⟨27, Tryz.f27, [.s (.e (.st .cfg)), .s (.e (.st .wld)), vi], [], [.s (.e (.st .wld)), vb], []⟩
abbrev thr (xs : List Thr) (t : Int) : Thr := rdE (EK.st SN.thr) xs t
abbrev tB (xs : List Thr) (t : Int) (b : Bool) : List Thr := wrE (EK.st SN.thr) xs t (Thr.mk (thr xs t).ops (thr xs t).at_ b (thr xs t).got)
abbrev tG (xs : List Thr) (t : Int) (g : List Int) : List Thr := wrE (EK.st SN.thr) xs t (Thr.mk (thr xs t).ops (thr xs t).at_ (thr xs t).busy g)
abbrev tA (xs : List Thr) (t : Int) : List Thr := wrE (EK.st SN.thr) xs t (Thr.mk (thr xs t).ops (w64 ((thr xs t).at_ + 1)) (thr xs t).busy (thr xs t).got)
noncomputable def aIb (p0 : clnIE.T) (p6 : nxtE.T) (c : Cfg) (s : Shr) (n : Int) (l : List Tou) (t : Int) (o : Opn) (xs : List Thr) (evs : List Ev) : Option trnStpE.Y :=
 (p0 (((thr xs t).got, ()), ())).bind fun z5 => bif decide (List.length z5.2.1 + [n].length ≤ 1000000000) then (p6 ((c, o, (thr (tG xs t (z5.2.1 ++ [n])) t).got, ()), ())).bind fun z6 =>
  bif z6.1.2.2.1 then bif decide (evs.length + [Ev.mk t true o z6.1.2.1].length ≤ 1000000000) then some ((Wld.mk s (tA (tG (tB (tG xs t (z5.2.1 ++ [n])) t false) t []) t) (evs ++ [Ev.mk t true o z6.1.2.1]) l, true, ()), ()) else none
  else some ((Wld.mk s (tG xs t (z5.2.1 ++ [n])) evs l, true, ()), ()) else none
noncomputable def aAt (p0 : clnIE.T) (p1 : askWaiE.T) (p2 : askDoE.T) (p3 : clnTE.T) (p4 : clnVE.T) (p5 : conTE.T) (p6 : nxtE.T) (p7 : trnAskE.T) (c : Cfg) (w : Wld) (t : Int) : Option trnStpE.Y :=
 (p7 ((c, w, t, ()), ())).bind fun z => bif !z.1.2.1 then some ((w, false, ()), ()) else (p1 ((w.shared, z.1.1, ()), ())).bind fun z1 => bif z1.1.1 then some ((w, false, ()), ()) else
 (p2 ((c, w.shared, t, z.1.1, ()), ())).bind fun z => bif z.1.2.2.2.1 != 0 then some ((w, false, ()), ()) else
 (p3 ((w.threads, ()), ())).bind fun z2 => (p4 ((w.events, ()), ())).bind fun z3 => (p5 (([w.touches, z.1.2.2.1], ()), ())).bind fun z4 =>
 bif inR t (List.length z2.2.1) then bif inR (thr z2.2.1 t).at_ (thr z2.2.1 t).ops.length then
  bif !(thr z2.2.1 t).busy then bif decide (List.length z3.2.1 + [Ev.mk t false (rdE (EK.st SN.opn) (thr z2.2.1 t).ops (thr z2.2.1 t).at_) (Res.mk 0 0 [] [] [])].length ≤ 1000000000) then
   aIb p0 p6 c z.1.1 z.1.2.1 z4.1.1 t (rdE (EK.st SN.opn) (thr z2.2.1 t).ops (thr z2.2.1 t).at_) (tG (tB z2.2.1 t true) t []) (z3.2.1 ++ [Ev.mk t false (rdE (EK.st SN.opn) (thr z2.2.1 t).ops (thr z2.2.1 t).at_) (Res.mk 0 0 [] [] [])]) else none
  else aIb p0 p6 c z.1.1 z.1.2.1 z4.1.1 t (rdE (EK.st SN.opn) (thr z2.2.1 t).ops (thr z2.2.1 t).at_) z2.2.1 z3.2.1
 else none else none
noncomputable def trnStpN : trnStpE.T := trnStpE.un (aAt clnIN askWaiN askDoN clnTN clnVN conTN nxtN trnAskN)
theorem aTk (p0 : clnIE.T) (p1 : askWaiE.T) (p2 : askDoE.T) (p3 : clnTE.T) (p4 : clnVE.T) (p5 : conTE.T) (p6 : nxtE.T) (p7 : trnAskE.T) (x) : trnStpE.run [clnIE.on p0, askWaiE.on p1, askDoE.on p2, clnTE.on p3, clnVE.on p4, conTE.on p5, nxtE.on p6, trnAskE.on p7] [] [] x = trnStpE.un (aAt p0 p1 p2 p3 p4 p5 p6 p7) x := by kernel_rfl
theorem trnStp_ok : trnStpE.Ok trnStpN := Fe.k (by kernel_rfl) (clnI_ok.k (askWai_ok.k (askDo_ok.k (clnT_ok.k (clnV_ok.k (conT_ok.k (nxt_ok.k (trnAsk_ok.k g0)))))))) (aA (by kernel_rfl)) (aTk clnIN askWaiN askDoN clnTN clnVN conTN nxtN trnAskN)
section
variable {N : Nat} {ro : Bool} {n : Nat} {s : RS} {c : Cfg} {got held : List Int}
def Dn (s : RS) (held : List Int) : Prop := s.2 = held.reverse ∧ held.length ≤ 1000000 ∧ ∀ x ∈ held, aM x
theorem Dn.set (b : Bool) {l : List Int} (h : l.length ≤ 1000000) (h2 : ∀ x ∈ l, aM x) : Dn (b, (aJ l).reverse) (aJ l) := ⟨rfl, Nat.le_trans (aDe l) h, fun x hx => h2 x ((aDd l x).1 hx)⟩
theorem wT : aM 0 := ⟨by decide, by decide⟩
theorem all1 {a : Int} (ha : aM a) : ∀ x ∈ [a], aM x := fun x hx => by simp at hx; subst hx; exact ha
theorem all2 {a b : Int} (ha : aM a) (hb : aM b) : ∀ x ∈ [a, b], aM x := fun x hx => by simp at hx; rcases hx with rfl | rfl <;> assumption
theorem all3 {a b d : Int} (ha : aM a) (hb : aM b) (hd : aM d) : ∀ x ∈ [a, b, d], aM x := fun x hx => by simp at hx; rcases hx with rfl | rfl | rfl <;> assumption
theorem Wr.set {l : List Int} (h : ro = false) (hl : l ≠ []) : Wr ro (false, (aJ l).reverse) := ⟨h, by simpa using aFq hl⟩
theorem aDh {a b : Int} {Q : Nat → RS → Bool → Prop} (hq : ∀ r, Q n s r) : (aAj [a, b] c got held).sat N (bQ ro) n s Q := by
 have e1 : inR 0 [a, b].length = true := rfl
 have e2 : inR (w64 (Int.ofNat [a, b].length - 1)) [a, b].length = true := by kernel_rfl
 unfold aAj knownF aHn
 simp only [F.tree, e1, e2, cond_true]
 exact T.sat_cond (fun _ => hq _) (fun _ => hq _)
theorem mO {a : Int} {Q : Nat → RS → Bool → Prop} (hq : ∀ r, Q n s r) : (aAj [a] c got held).sat N (bQ ro) n s Q := by
 have e1 : inR 0 [a].length = true := rfl
 have e2 : inR (w64 (Int.ofNat [a].length - 1)) [a].length = true := by kernel_rfl
 unfold aAj knownF aHn
 simp only [F.tree, e1, e2, cond_true]
 exact T.sat_cond (fun _ => hq _) (fun _ => hq _)
def Sm (r : Res) : Prop := r.pairs.length ≤ 100000 ∧ r.out.length ≤ 100000 ∧ r.inn.length ≤ 100000
theorem sm0 {e i : Int} : Sm (Res.mk e i [] [] []) := ⟨Nat.zero_le _, Nat.zero_le _, Nat.zero_le _⟩
abbrev QD (_ : Nat) (s : RS) (x : Res × List Int) : Prop := Dn s x.2 ∧ Sm x.1
theorem bJc (hg : got.length = N) (hn : n ≤ N) (hr : ro = false) (hs : s.2 = []) : (bKj c got held).sat N (bQ ro) n s QD := by
 unfold bKj
 refine T.sat_bind (jW hg hn hs (by simp) (all1 wT) (by simp) fun n' h1 h2 =>?_)
 have hw : Wr ro (false, (aJ [0]).reverse) := .set hr (by simp)
 have hD : Dn (false, (aJ [0]).reverse) (aJ [0]) := .set _ (by simp) (all1 wT)
 generalize aJ [0] = S at hw hD
 repeat' (first
 |exact ⟨hD, sm0⟩
 |refine T.sat_bind (aI fun _ _ _ =>?_)
 |refine T.sat_bind (gW fun _ _ _ =>?_)
 |refine T.sat_bind (cA fun _ _ _ =>?_)
 |refine T.sat_bind (bG fun _ _ _ =>?_)
 |refine T.sat_bind (bJ hw fun _ =>?_)
 |refine T.sat_bind (lN hw fun _ =>?_)
 |refine T.sat_bind (cC hw fun _ =>?_)
 |refine T.sat_bind (mN hw fun _ _ _ =>?_)
 |refine T.sat_bind (fX hg hw fun _ _ _ =>?_)
 |refine T.sat_cond (fun _ =>?_) (fun _ =>?_))
theorem bGk (hg : got.length = N) (hn : n ≤ N) (hr : ro = false) (hs : s.2 = []) (h0 : Dn s held) {a b : Int} (ha : aM a) (hb : aM b) : (bEo a b c got held).sat N (bQ ro) n s QD := by
 unfold bEo
 refine T.sat_bind (aDh fun r =>?_)
 refine T.sat_cond (fun _ => ⟨h0, sm0⟩) (fun _ =>?_)
 refine T.sat_bind (jW hg hn hs (by simp) (all3 wT ha hb) (by simp) fun n' h1 h2 =>?_)
 have hw : Wr ro (false, (aJ [0, a, b]).reverse) := .set hr (by simp)
 have hD : Dn (false, (aJ [0, a, b]).reverse) (aJ [0, a, b]) := .set _ (by simp) (all3 wT ha hb)
 generalize aJ [0, a, b] = S at hw hD
 repeat' (first
 |exact ⟨hD, sm0⟩
 |refine T.sat_bind (aI fun _ _ _ =>?_)
 |refine T.sat_bind (gW fun _ _ _ =>?_)
 |refine T.sat_bind (cA fun _ _ _ =>?_)
 |refine T.sat_bind (bG fun _ _ _ =>?_)
 |refine T.sat_bind (bJ hw fun _ =>?_)
 |refine T.sat_bind (lN hw fun _ =>?_)
 |refine T.sat_bind (cC hw fun _ =>?_)
 |refine T.sat_bind (mN hw fun _ _ _ =>?_)
 |refine T.sat_bind (fX hg hw fun _ _ _ =>?_)
 |refine T.sat_cond (fun _ =>?_) (fun _ =>?_))
end
section
variable {N : Nat} {ro : Bool} {n : Nat} {s : RS} {c : Cfg} {got held : List Int}
theorem bJd (hg : got.length = N) (hn : n ≤ N) (hr : ro = false) (h0 : Dn s held) {i : Int} : (bKl i c got held).sat N (bQ ro) n s QD := by
 unfold bKl
 refine T.sat_cond (fun _ => ⟨h0, sm0⟩) (fun _ => T.sat_cond (fun _ => ⟨h0, sm0⟩) (fun _ =>?_))
 refine T.sat_bind (T.sat_loop (fun n' s' x => Dn s' x.1) ?_ _ _ _ _ (by omega) hn h0)
 rintro n s ⟨held, v10, v11⟩ hD hn
 dsimp only at hD
 unfold aFe
 dsimp only
 refine T.sat_bind (gW fun h1 x1 hx1 =>?_)
 refine T.sat_cond (fun _ => ⟨hD, sm0⟩) (fun _ =>?_)
 refine T.sat_bind (aI fun h2 x4 hx4 =>?_)
 refine T.sat_bind (aI fun h3 x5 hx5 =>?_)
 have hfree : ∀ {Q : Nat → RS → (List Int × Int × Int) ⊕ (List Int × Int) → Prop}, (∀ n', n < n' → Dn (false, (aJ [x4, x5]).reverse) (aJ [x4, x5]) → Q n' (false, (aJ [x4, x5]).reverse) (.inl (aJ [x4, x5], x4, x5))) →
   ((oL held).bind fun _ => (aHp [x4, x5] c got []).bind fun x8 => .ret (Sum.inl (x8, x4, x5))).sat N (bQ ro) (n + 1 + 1 + 1) s Q := fun hq => by
  refine T.sat_bind (uY hD.1 hD.2.1 (by omega) fun n1 b h4 h5 =>?_)
  refine T.sat_bind (jW hg h5 rfl (by simp) (all2 hx4 hx5) (by simp) fun n2 h6 h7 =>?_)
  exact hq _ (by omega) (.set _ (by simp) (all2 hx4 hx5))
 refine T.sat_cond (fun he =>?_) (fun _ => hfree fun _ h5 h6 => ⟨h5, h6⟩)
 have hw : Wr ro s := ⟨hr, by rw [hD.1]; simpa using he⟩
 refine T.sat_gret (by rw [oY (by simp) (all2 hx4 hx5), oY hD.2.1 hD.2.2]; rfl) ?_
 refine T.sat_cond (fun _ =>?_) (fun _ => hfree fun _ h5 h6 => ⟨h5, h6⟩)
 repeat' (first
 |exact ⟨hD, sm0⟩
 |refine T.sat_bind (aI fun _ _ _ =>?_)
 |refine T.sat_bind (gW fun _ _ _ =>?_)
 |refine T.sat_bind (cA fun _ _ _ =>?_)
 |refine T.sat_bind (bG fun _ _ _ =>?_)
 |refine T.sat_bind (bJ hw fun _ =>?_)
 |refine T.sat_bind (lN hw fun _ =>?_)
 |refine T.sat_bind (cC hw fun _ =>?_)
 |refine T.sat_bind (mN hw fun _ _ _ =>?_)
 |refine T.sat_bind (fX hg hw fun _ _ _ =>?_)
 |refine T.sat_cond (fun _ =>?_) (fun _ =>?_))
theorem bAn (hg : got.length = N) (hn : n ≤ N) (hw : Wr ro s) {w r k v : Int} (hv : aM v) {Q : Nat → RS → Bool → Prop} (hq : ∀ n' b, n ≤ n' → n' ≤ N → Q n' s b) : (aVj w r c got held k v).sat N (bQ ro) n s Q := by
 unfold aVj
 refine T.sat_bind (T.sat_loop (fun n' s' _ => n ≤ n' ∧ s' = s) ?_ _ _ _ _ (by omega) hn ⟨by omega, rfl⟩)
 rintro n1 s1 ⟨v12, v13, v16⟩ ⟨hI, rfl⟩ hn1
 unfold xN
 dsimp only
 refine T.sat_cond (fun _ =>?_) (fun _ => hq _ _ hI hn1)
 refine T.sat_bind ?_
 unfold setCF bEw
 refine T.sat_bind (aI fun h1 x1 hx1 =>?_)
 refine T.sat_cond (fun _ =>?_) (fun _ => T.sat_bind (bJ hw fun h2 => hq _ _ (by omega) (by omega)))
 exact T.sat_bind (bG fun h3 x3 hx3 => ⟨by omega, by omega, rfl⟩)
theorem aNk (hg : got.length = N) (hn : n ≤ N) (hr : ro = false) (hs : s.2 = []) (h0 : Dn s held) {m k v : Int} (hm : aM m) (hk : aM k) (hv : aM v) : (aFm m k v c got held).sat N (bQ ro) n s QD := by
 unfold aFm
 refine T.sat_bind (mO fun r =>?_)
 refine T.sat_cond (fun _ => ⟨h0, sm0⟩) (fun _ =>?_)
 refine T.sat_bind (jW hg hn hs (by simp) (all1 hm) (by simp) fun n' h1 h2 =>?_)
 have hw : Wr ro (false, (aJ [m]).reverse) := .set hr (by simp)
 have hD : Dn (false, (aJ [m]).reverse) (aJ [m]) := .set _ (by simp) (all1 hm)
 generalize aJ [m] = S at hw hD
 refine T.sat_bind (cA fun h3 x2 hx2 =>?_)
 refine T.sat_cond (fun _ => ⟨hD, sm0⟩) (fun _ =>?_)
 refine T.sat_bind (aI fun h4 x4 hx4 =>?_)
 refine T.sat_bind (bAn hg (by omega) hw hv fun n5 b h5 h6 =>?_)
 repeat' (first
 |exact ⟨hD, sm0⟩
 |refine T.sat_bind (aI fun _ _ _ =>?_)
 |refine T.sat_bind (gW fun _ _ _ =>?_)
 |refine T.sat_bind (cA fun _ _ _ =>?_)
 |refine T.sat_bind (bG fun _ _ _ =>?_)
 |refine T.sat_bind (bJ hw fun _ =>?_)
 |refine T.sat_bind (lN hw fun _ =>?_)
 |refine T.sat_bind (cC hw fun _ =>?_)
 |refine T.sat_bind (mN hw fun _ _ _ =>?_)
 |refine T.sat_bind (fX hg hw fun _ _ _ =>?_)
 |refine T.sat_cond (fun _ =>?_) (fun _ =>?_))
theorem bAo (hg : got.length = N) (hn : n ≤ N) (hw : Wr ro s) {w r k w3 r3 : Int} {Q : Nat → RS → Bool → Prop} (hq : ∀ n' b, n ≤ n' → n' ≤ N → Q n' s b) : (aVk w r c got held k w3 r3).sat N (bQ ro) n s Q := by
 unfold aVk
 refine T.sat_bind (T.sat_loop (fun n' s' _ => n ≤ n' ∧ s' = s) ?_ _ _ _ _ (by omega) hn ⟨by omega, rfl⟩)
 rintro n1 s1 ⟨v12, v13, v16⟩ ⟨hI, rfl⟩ hn1
 unfold xO
 dsimp only
 refine T.sat_cond (fun _ =>?_) (fun _ => hq _ _ hI hn1)
 refine T.sat_bind ?_
 unfold delCF bEz
 have hD : ∀ n', n1 < n' → n' ≤ N → True := fun _ _ _ => trivial
 repeat' (first
 |exact ⟨by omega, by omega, rfl⟩
 |exact hq _ _ (by omega) (by omega)
 |refine T.sat_bind (aI fun _ _ _ =>?_)
 |refine T.sat_bind (bG fun _ _ _ =>?_)
 |refine T.sat_bind (bJ hw fun _ =>?_)
 |refine T.sat_bind (cC hw fun _ =>?_)
 |refine T.sat_cond (fun _ =>?_) (fun _ =>?_))
theorem aNl (hg : got.length = N) (hn : n ≤ N) (hr : ro = false) (hs : s.2 = []) (h0 : Dn s held) {m k : Int} (hm : aM m) : (aFn m k c got held).sat N (bQ ro) n s QD := by
 unfold aFn
 refine T.sat_bind (mO fun r =>?_)
 refine T.sat_cond (fun _ => ⟨h0, sm0⟩) (fun _ =>?_)
 refine T.sat_bind (jW hg hn hs (by simp) (all1 hm) (by simp) fun n' h1 h2 =>?_)
 have hw : Wr ro (false, (aJ [m]).reverse) := .set hr (by simp)
 have hD : Dn (false, (aJ [m]).reverse) (aJ [m]) := .set _ (by simp) (all1 hm)
 generalize aJ [m] = S at hw hD
 refine T.sat_bind (cA fun h3 x2 hx2 =>?_)
 refine T.sat_cond (fun _ => ⟨hD, sm0⟩) (fun _ =>?_)
 refine T.sat_bind (aI fun h4 x4 hx4 =>?_)
 refine T.sat_bind (bAo hg (by omega) hw fun n5 b h5 h6 =>?_)
 repeat' (first
 |exact ⟨hD, sm0⟩
 |refine T.sat_bind (aI fun _ _ _ =>?_)
 |refine T.sat_bind (gW fun _ _ _ =>?_)
 |refine T.sat_bind (cA fun _ _ _ =>?_)
 |refine T.sat_bind (bG fun _ _ _ =>?_)
 |refine T.sat_bind (bJ hw fun _ =>?_)
 |refine T.sat_bind (lN hw fun _ =>?_)
 |refine T.sat_bind (cC hw fun _ =>?_)
 |refine T.sat_bind (mN hw fun _ _ _ =>?_)
 |refine T.sat_bind (fX hg hw fun _ _ _ =>?_)
 |refine T.sat_cond (fun _ =>?_) (fun _ =>?_))
end
section
variable {N : Nat} {ro : Bool} {n : Nat} {s : RS} {c : Cfg} {got held : List Int}
def Ls (B : Nat) (l : List Int) : Prop := l.length ≤ B ∧ ∀ x ∈ l, aM x
theorem aFu (hg : got.length = N) (hN : N ≤ 100000) (hn : n ≤ N) {w r : Int} {sd sd2 : Sid} {us : List Int} (hu : Ls (n + N) us) {Q : Nat → RS → List Int → Prop} (hq : ∀ n' x, n < n' → n' ≤ N → Ls (n' + N) x → Q n' s x) : (aVh w r sd c got held sd2 us).sat N (bQ ro) n s Q := by
 unfold aVh
 refine T.sat_bind (aI fun h1 x1 hx1 =>?_)
 refine T.sat_bind (T.sat_loop (fun n' s' x => n < n' ∧ s' = s ∧ Ls (n' + N) x.1) ?_ _ _ _ _ (by omega) (by omega) ⟨by omega, rfl, by have := hu.1; show us.length ≤ _; omega, hu.2⟩)
 rintro n1 s1 ⟨us, v15⟩ ⟨hI, rfl, hl⟩ hn1
 unfold xM uN
 dsimp only at hl ⊢
 refine T.sat_cond (fun _ =>?_) (fun _ => hq _ _ hI hn1 hl)
 refine T.sat_bind ?_
 unfold aroundCF aCw
 refine T.sat_bind (aI fun h2 x2 hx2 =>?_)
 have hl1 := hl.1
 dsimp only [F.tree]; rw [decide_eq_true (by simp; omega), cond_true]
 refine T.sat_bind (bG fun h3 x3 hx3 =>?_)
 refine ⟨by omega, by omega, rfl, by simp; omega, fun x hx =>?_⟩
 rcases List.mem_append.1 hx with h | h
 ·exact hl.2 x h
 ·simp at h; subst h; exact hx2
theorem pD (hg : got.length = N) (hN : N ≤ 100000) (hn : n ≤ N) {w r : Int} {Q : Nat → RS → List Int → Prop} (hq : ∀ n' x, n < n' → n' ≤ N → Ls 200000 x → Q n' s x) : (aMa w r c got held).sat N (bQ ro) n s Q := by
 unfold aMa
 refine T.sat_bind (aFu hg hN hn ⟨by simp, fun x hx => (by cases hx)⟩ fun n1 x1 h1 h2 h3 =>?_)
 refine T.sat_bind (aFu hg hN h2 h3 fun n4 x4 h4 h5 h6 =>?_)
 exact hq _ _ (by omega) h5 ⟨by have := h6.1; omega, h6.2⟩
theorem Ls.append {B : Nat} {l m : List Int} (h : Ls 200000 l) (h2 : Ls 2 m) : Ls 200002 (l ++ m) := ⟨by simp; have := h.1; have := h2.1; omega, fun x hx => (List.mem_append.1 hx).elim (h.2 x) (h2.2 x)⟩
theorem bAp (hg : got.length = N) (hN : N ≤ 100000) (hn : n ≤ N) (hr : ro = false) (hs : s.2 = []) (h0 : Dn s held) {m : Int} {more : List Int} (hm : more ≠ []) (hm2 : Ls 2 more) {Q : Nat → RS → Int × Bool × List Int → Prop}
  (hq : ∀ n' s' x, n ≤ n' → n' ≤ N → Dn s' x.2.2 → (x.2.1 = true → Wr ro s') → Q n' s' x) : (aVt m more c got held).sat N (bQ ro) n s Q := by
 unfold aVt
 refine T.sat_bind (cA fun h1 x1 hx1 =>?_)
 refine T.sat_cond (fun _ => hq _ _ _ (by omega) (by omega) h0 (fun h => by cases h)) (fun _ =>?_)
 refine T.sat_bind (pD hg hN (by omega) fun n2 x2 h2 h3 h4 =>?_)
 have hl := h4.1
 have hl2 := hm2.1
 dsimp only [F.tree]; rw [decide_eq_true (by omega), cond_true]
 refine T.sat_bind (T.sat_loop (fun n' s' x => n ≤ n' ∧ s'.2 = [] ∧ x.2.2.2 ≠ [] ∧ Ls 200002 x.2.2.2) ?_ _ _ _ _ (by omega) h3 ⟨by omega, hs, by simpa using fun _ => hm, h4.append (B := 0) hm2⟩)
 rintro n5 s5 ⟨held5, v15, v16, v17⟩ ⟨h5, h6, h7, h8⟩ hn5
 dsimp only at h7 h8
 unfold xW uV
 dsimp only
 have h81 := h8.1
 refine T.sat_bind (jW hg hn5 h6 (by omega) h8.2 h7 fun n9 h9 h10 =>?_)
 have hw : Wr ro (false, (aJ v17).reverse) := .set hr h7
 have hD : Dn (false, (aJ v17).reverse) (aJ v17) := .set _ (by omega) h8.2
 generalize aJ v17 = S at hw hD
 refine T.sat_bind (cA fun h11 x11 hx11 =>?_)
 refine T.sat_cond (fun _ => hq _ _ _ (by omega) (by omega) hD (fun h => by cases h)) (fun _ =>?_)
 refine T.sat_bind (pD hg hN (by omega) fun n12 x12 h12 h13 h14 =>?_)
 have hl3 := h14.1
 dsimp only [F.tree]; rw [decide_eq_true (by omega), cond_true]
 have h15 := h14.append (B := 0) hm2
 refine T.sat_gret (by rw [oY (by have := h15.1; omega) h15.2, oY hD.2.1 hD.2.2]; rfl) ?_
 refine T.sat_cond (fun _ => hq _ _ _ (by omega) h13 hD (fun _ => hw)) (fun _ =>?_)
 refine T.sat_bind (uY hD.1 hD.2.1 h13 fun n16 b h16 h17 =>?_)
 exact ⟨by omega, by omega, rfl, by simpa using fun _ => hm, h15⟩
theorem bAq (hg : got.length = N) (hn : n ≤ N) (hw : Wr ro s) {w r m : Int} {sd : Sid} {Q : Nat → RS → Unit → Prop} (hq : ∀ n', n < n' → n' ≤ N → Q n' s ()) : (aVp w r sd c got held m).sat N (bQ ro) n s Q := by
 unfold aVp
 refine T.sat_bind (aI fun h1 x1 hx1 =>?_)
 refine T.sat_bind (T.sat_loop (fun n' s' _ => n < n' ∧ s' = s) ?_ _ _ _ _ (by omega) (by omega) ⟨by omega, rfl⟩)
 rintro n1 s1 v12 ⟨hI, rfl⟩ hn1
 unfold xT uS goneC2F aHt goneC3F aHu
 dsimp only
 refine T.sat_cond (fun _ => T.sat_bind ?_) (fun _ => hq _ hI hn1)
 refine T.sat_bind (aI fun h2 x2 hx2 =>?_)
 refine T.sat_bind (aI fun h3 x3 hx3 =>?_)
 refine T.sat_bind (bG fun h4 x4 hx4 => T.sat_bind ?_)
 have hD : True := trivial
 repeat' (first
 |exact ⟨by omega, by omega, rfl⟩
 |refine T.sat_bind (aI fun _ _ _ =>?_)
 |refine T.sat_bind (gW fun _ _ _ =>?_)
 |refine T.sat_bind (cA fun _ _ _ =>?_)
 |refine T.sat_bind (bG fun _ _ _ =>?_)
 |refine T.sat_bind (bJ hw fun _ =>?_)
 |refine T.sat_bind (lN hw fun _ =>?_)
 |refine T.sat_bind (cC hw fun _ =>?_)
 |refine T.sat_bind (mN hw fun _ _ _ =>?_)
 |refine T.sat_bind (fX hg hw fun _ _ _ =>?_)
 |refine T.sat_cond (fun _ =>?_) (fun _ =>?_))
theorem bAr (hg : got.length = N) (hn : n ≤ N) (hw : Wr ro s) {w r m : Int} {sd : Sid} {Q : Nat → RS → Unit → Prop} (hq : ∀ n', n < n' → n' ≤ N → Q n' s ()) : (aVq w r sd c got held m).sat N (bQ ro) n s Q := by
 unfold aVq
 refine T.sat_bind (aI fun h1 x1 hx1 =>?_)
 refine T.sat_bind (T.sat_loop (fun n' s' _ => n < n' ∧ s' = s) ?_ _ _ _ _ (by omega) (by omega) ⟨by omega, rfl⟩)
 rintro n1 s1 v12 ⟨hI, rfl⟩ hn1
 unfold xU uT goneC4F aHv goneC5F aHw
 dsimp only
 refine T.sat_cond (fun _ => T.sat_bind ?_) (fun _ => hq _ hI hn1)
 refine T.sat_bind (aI fun h2 x2 hx2 =>?_)
 refine T.sat_bind (bG fun h4 x4 hx4 => T.sat_bind ?_)
 have hD : True := trivial
 repeat' (first
 |exact ⟨by omega, by omega, rfl⟩
 |refine T.sat_bind (aI fun _ _ _ =>?_)
 |refine T.sat_bind (gW fun _ _ _ =>?_)
 |refine T.sat_bind (cA fun _ _ _ =>?_)
 |refine T.sat_bind (bG fun _ _ _ =>?_)
 |refine T.sat_bind (bJ hw fun _ =>?_)
 |refine T.sat_bind (lN hw fun _ =>?_)
 |refine T.sat_bind (cC hw fun _ =>?_)
 |refine T.sat_bind (mN hw fun _ _ _ =>?_)
 |refine T.sat_bind (fX hg hw fun _ _ _ =>?_)
 |refine T.sat_cond (fun _ =>?_) (fun _ =>?_))
theorem bGl (hg : got.length = N) (hN : N ≤ 100000) (hn : n ≤ N) (hr : ro = false) (hs : s.2 = []) (h0 : Dn s held) {m : Int} (hm : aM m) : (bFt m c got held).sat N (bQ ro) n s QD := by
 unfold bFt
 refine T.sat_bind (mO fun r =>?_)
 refine T.sat_cond (fun _ => ⟨h0, sm0⟩) (fun _ =>?_)
 refine T.sat_bind (bAp hg hN hn hr hs h0 (by simp) ⟨by simp, all1 hm⟩ fun n1 s1 x1 h1 h2 hD hw1 =>?_)
 refine T.sat_cond (fun _ => ⟨hD, sm0⟩) (fun hb =>?_)
 have hw := hw1 (by simpa using hb)
 refine T.sat_bind (lN hw fun h3 =>?_)
 refine T.sat_bind (bAq hg (by omega) hw fun n4 h4 h5 =>?_)
 refine T.sat_bind (bAr hg (by omega) hw fun n6 h6 h7 =>?_)
 refine T.sat_bind (aI fun h8 x8 hx8 =>?_)
 refine T.sat_bind (T.sat_loop (fun n' s' _ => s' = s1) ?_ _ _ _ _ (by omega) (by omega) rfl)
 rintro n9 s9 v14 rfl hn9
 unfold aCz aAk
 dsimp only
 refine T.sat_cond (fun _ =>?_) (fun _ => T.sat_bind (cC hw fun _ => ⟨hD, sm0⟩))
 exact T.sat_bind (bG fun h10 x10 hx10 => T.sat_bind (cC hw fun _ => ⟨by omega, rfl⟩))
end
section
variable {N : Nat} {ro : Bool} {n : Nat} {s : RS} {c : Cfg} {got held : List Int}
theorem bAs (hg : got.length = N) (hN : N ≤ 100000) (hn : n ≤ N) {w r er id : Int} {ps : List Pr} {sd sd2 : Sid} {u1 u2 : List En} (hu : u1.length ≤ n) {Q : Nat → RS → List En → Prop} (hq : ∀ n' x, n < n' → n' ≤ N → x.length ≤ n' → Q n' s x) : (aVn w r sd c got held sd2 er id ps u1 u2).sat N (bQ ro) n s Q := by
 unfold aVn
 refine T.sat_bind (aI fun h1 x1 hx1 =>?_)
 refine T.sat_bind (T.sat_loop (fun n' s' x => n < n' ∧ s' = s ∧ x.1.length ≤ n') ?_ _ _ _ _ (by omega) (by omega) ⟨by omega, rfl, by show u1.length ≤ _; omega⟩)
 rintro n1 s1 ⟨u1, v15⟩ ⟨hI, rfl, hl⟩ hn1
 unfold xR uQ
 dsimp only at hl ⊢
 refine T.sat_cond (fun _ =>?_) (fun _ => hq _ _ hI hn1 hl)
 refine T.sat_bind ?_
 unfold endsCoF aHr
 refine T.sat_bind (aI fun h2 x2 hx2 =>?_)
 refine T.sat_bind (aI fun h4 x4 hx4 =>?_)
 dsimp only [F.tree]; rw [decide_eq_true (by simp; omega), cond_true]
 refine T.sat_bind (bG fun h3 x3 hx3 =>?_)
 exact ⟨by omega, by omega, rfl, by simp; omega⟩
theorem bAt (hg : got.length = N) (hN : N ≤ 100000) (hn : n ≤ N) {w r er id : Int} {ps : List Pr} {sd sd2 : Sid} {u1 u2 : List En} (hu : u2.length ≤ n) {Q : Nat → RS → List En → Prop} (hq : ∀ n' x, n < n' → n' ≤ N → x.length ≤ n' → Q n' s x) : (aVo w r sd c got held sd2 er id ps u1 u2).sat N (bQ ro) n s Q := by
 unfold aVo
 refine T.sat_bind (aI fun h1 x1 hx1 =>?_)
 refine T.sat_bind (T.sat_loop (fun n' s' x => n < n' ∧ s' = s ∧ x.1.length ≤ n') ?_ _ _ _ _ (by omega) (by omega) ⟨by omega, rfl, by show u2.length ≤ _; omega⟩)
 rintro n1 s1 ⟨u2, v15⟩ ⟨hI, rfl, hl⟩ hn1
 unfold xS uR
 dsimp only at hl ⊢
 refine T.sat_cond (fun _ =>?_) (fun _ => hq _ _ hI hn1 hl)
 refine T.sat_bind ?_
 unfold endsCiF aHs
 refine T.sat_bind (aI fun h2 x2 hx2 =>?_)
 refine T.sat_bind (aI fun h4 x4 hx4 =>?_)
 dsimp only [F.tree]; rw [decide_eq_true (by simp; omega), cond_true]
 refine T.sat_bind (bG fun h3 x3 hx3 =>?_)
 exact ⟨by omega, by omega, rfl, by simp; omega⟩
theorem aDi {n : Nat} (h : n ≤ 1000000) : pI n = true := decide_eq_true h
theorem bGm (hg : got.length = N) (hN : N ≤ 100000) (hn : n ≤ N) {w r : Int} {Q : Nat → RS → Res → Prop} (hq : ∀ n' x, n < n' → n' ≤ N → Sm x → Q n' s x) : (bFg w r c got held).sat N (bQ ro) n s Q := by
 unfold bFg
 refine T.sat_bind (bAs hg hN hn (by simp) fun n1 x1 h1 h2 h3 =>?_)
 refine T.sat_gret (aDi (by omega)) ?_
 refine T.sat_bind (bAt hg hN h2 (by simp) fun n4 x4 h4 h5 h6 =>?_)
 refine T.sat_gret (aDi (by omega)) ?_
 exact hq _ _ (by omega) h5 ⟨Nat.zero_le _, by show (oW x1).length ≤ _; rw [oW, aL]; omega, by show (oW x4).length ≤ _; rw [oW, aL]; omega⟩
theorem bAu (hg : got.length = N) (hN : N ≤ 100000) (hn : n ≤ N) {w r er id : Int} {eo ei : List En} {pr : List Pr} (hu : pr.length ≤ n) {Q : Nat → RS → List Pr → Prop} (hq : ∀ n' x, n ≤ n' → n' ≤ N → x.length ≤ n' → Q n' s x) : (aVl w r c got held er id eo ei pr).sat N (bQ ro) n s Q := by
 unfold aVl
 refine T.sat_bind (T.sat_loop (fun n' s' x => n ≤ n' ∧ s' = s ∧ x.1.length ≤ n') ?_ _ _ _ _ (by omega) hn ⟨by omega, rfl, hu⟩)
 rintro n1 s1 ⟨pr, v15, v16, v19⟩ ⟨hI, rfl, hl⟩ hn1
 unfold xP uO
 dsimp only at hl ⊢
 refine T.sat_cond (fun _ =>?_) (fun _ => hq _ _ hI hn1 hl)
 refine T.sat_bind ?_
 unfold pairsCF aHq
 refine T.sat_bind (aI fun h2 x2 hx2 =>?_)
 refine T.sat_bind (aI fun h4 x4 hx4 =>?_)
 dsimp only [F.tree]; rw [decide_eq_true (by simp; omega), cond_true]
 refine T.sat_bind (bG fun h3 x3 hx3 =>?_)
 exact ⟨by omega, by omega, rfl, by simp; omega⟩
theorem bAv (hg : got.length = N) (hN : N ≤ 100000) (hn : n ≤ N) {w r : Int} {Q : Nat → RS → Res → Prop} (hq : ∀ n' x, n < n' → n' ≤ N → Sm x → Q n' s x) : (aVr w r c got held).sat N (bQ ro) n s Q := by
 unfold aVr
 refine T.sat_bind (aI fun h1 x1 hx1 =>?_)
 refine T.sat_bind (bAu hg hN (by omega) (by simp) fun n2 x2 h2 h3 h4 =>?_)
 refine T.sat_gret (aDi (by omega)) ?_
 exact hq _ _ (by omega) h3 ⟨by show (aCv x2).length ≤ _; rw [aCv, aL]; omega, Nat.zero_le _, Nat.zero_le _⟩
theorem bAw (hg : got.length = N) (hN : N ≤ 100000) (hn : n ≤ N) (hs : s.2 = []) {m : Int} {Q : Nat → RS → Res → Prop} (hq : ∀ n' x, n ≤ n' → n' ≤ N → Sm x → Q n' s x) : (aVs m c got held).sat N (bQ ro) n s Q := by
 unfold aVs
 refine T.sat_bind (mO fun r =>?_)
 refine T.sat_cond (fun _ => hq _ _ (by omega) hn sm0) (fun _ =>?_)
 refine T.sat_bind (T.sat_loop (fun n' s' _ => n ≤ n' ∧ s' = s) ?_ _ _ _ _ (by omega) hn ⟨by omega, rfl⟩)
 rintro n1 s1 v ⟨hI, rfl⟩ hn1
 unfold xV uU
 refine T.sat_bind (aAo hs fun h1 x1 hx1 =>?_)
 refine T.sat_bind (cA fun h2 x2 hx2 =>?_)
 refine T.sat_cond (fun _ => hq _ _ (by omega) (by omega) sm0) (fun _ =>?_)
 refine T.sat_bind (bAv hg hN (by omega) fun n3 x3 h3 h4 hsm =>?_)
 refine T.sat_bind (aAo hs fun h5 x5 hx5 =>?_)
 exact T.sat_cond (fun _ => hq _ _ (by omega) (by omega) hsm) (fun _ => ⟨by omega, by omega, rfl⟩)
theorem bAx (hg : got.length = N) (hN : N ≤ 100000) (hn : n ≤ N) (hs : s.2 = []) {m : Int} {Q : Nat → RS → Res → Prop} (hq : ∀ n' x, n ≤ n' → n' ≤ N → Sm x → Q n' s x) : (aVv m c got held).sat N (bQ ro) n s Q := by
 unfold aVv
 refine T.sat_bind (mO fun r =>?_)
 refine T.sat_cond (fun _ => hq _ _ (by omega) hn sm0) (fun _ =>?_)
 refine T.sat_bind (T.sat_loop (fun n' s' _ => n ≤ n' ∧ s' = s) ?_ _ _ _ _ (by omega) hn ⟨by omega, rfl⟩)
 rintro n1 s1 v ⟨hI, rfl⟩ hn1
 unfold xY uX
 refine T.sat_bind (aAo hs fun h1 x1 hx1 =>?_)
 refine T.sat_bind (cA fun h2 x2 hx2 =>?_)
 refine T.sat_cond (fun _ => hq _ _ (by omega) (by omega) sm0) (fun _ =>?_)
 refine T.sat_bind (bGm hg hN (by omega) fun n3 x3 h3 h4 hsm =>?_)
 refine T.sat_bind (aAo hs fun h5 x5 hx5 =>?_)
 exact T.sat_cond (fun _ => hq _ _ (by omega) (by omega) hsm) (fun _ => ⟨by omega, by omega, rfl⟩)
theorem bAy (hg : got.length = N) (hn : n ≤ N) {w r k : Int} {Q : Nat → RS → Bool → Prop} (hq : ∀ n' b, n ≤ n' → n' ≤ N → Q n' s b) : (aVm w r c got held k).sat N (bQ ro) n s Q := by
 unfold aVm
 refine T.sat_bind (T.sat_loop (fun n' s' _ => n ≤ n' ∧ s' = s) ?_ _ _ _ _ (by omega) hn ⟨by omega, rfl⟩)
 rintro n1 s1 ⟨v12, v13, v16⟩ ⟨hI, rfl⟩ hn1
 unfold xQ uP
 dsimp only
 refine T.sat_cond (fun _ =>?_) (fun _ => hq _ _ hI hn1)
 refine T.sat_bind ?_
 unfold fuseCF aSc
 refine T.sat_bind (aI fun h1 x1 hx1 =>?_)
 refine T.sat_cond (fun _ => hq _ _ (by omega) (by omega)) (fun _ =>?_)
 exact T.sat_bind (bG fun h3 x3 hx3 => ⟨by omega, by omega, rfl⟩)
theorem bAz (hg : got.length = N) (hN : N ≤ 100000) (hn : n ≤ N) (hr : ro = false) (hs : s.2 = []) (h0 : Dn s held) {m a xw xr : Int} {more : List Int} (hm : more ≠ []) (hm2 : Ls 2 more) {Q : Nat → RS → (Int × Bool × List Int × Int) ⊕ (Int × List Int × Int × Int) → Prop}
  (hq : ∀ n' s' x, n ≤ n' → n' ≤ N → Dn s' x.2.2.1 → (x.2.1 = true → Wr ro s') → Q n' s' (.inl x)) (hq2 : ∀ n' s' x, n ≤ n' → n' ≤ N → Dn s' x.2.1 → Q n' s' (.inr x)) : (aVu m more c got held a xw xr).sat N (bQ ro) n s Q := by
 unfold aVu
 refine T.sat_bind (cA fun h1 x1 hx1 =>?_)
 refine T.sat_cond (fun _ => hq2 _ _ _ (by omega) (by omega) h0) (fun _ =>?_)
 refine T.sat_bind (pD hg hN (by omega) fun n2 x2 h2 h3 h4 =>?_)
 have hl := h4.1
 have hl2 := hm2.1
 dsimp only [F.tree]; rw [decide_eq_true (by omega), cond_true]
 refine T.sat_bind (T.sat_loop (fun n' s' x => n ≤ n' ∧ s'.2 = [] ∧ x.2.2.2.2.2 ≠ [] ∧ Ls 200002 x.2.2.2.2.2) ?_ _ _ _ _ (by omega) h3 ⟨by omega, hs, by simpa using fun _ => hm, h4.append (B := 0) hm2⟩)
 rintro n5 s5 ⟨held5, xw, xr, v15, v16, v17⟩ ⟨h5, h6, h7, h8⟩ hn5
 dsimp only at h7 h8
 unfold xX uW
 dsimp only
 have h81 := h8.1
 refine T.sat_bind (jW hg hn5 h6 (by omega) h8.2 h7 fun n9 h9 h10 =>?_)
 have hw : Wr ro (false, (aJ v17).reverse) := .set hr h7
 have hD : Dn (false, (aJ v17).reverse) (aJ v17) := .set _ (by omega) h8.2
 generalize aJ v17 = S at hw hD
 refine T.sat_bind (cA fun h11 x11 hx11 =>?_)
 refine T.sat_cond (fun _ => hq2 _ _ _ (by omega) (by omega) hD) (fun _ =>?_)
 refine T.sat_bind ?_
 unfold fuseC1F aHx
 refine T.sat_bind (cA fun h18 x18 hx18 =>?_)
 refine T.sat_cond (fun _ => hq _ _ _ (by omega) (by omega) hD (fun h => by cases h)) (fun _ =>?_)
 refine T.sat_bind (pD hg hN (by omega) fun n12 x12 h12 h13 h14 =>?_)
 have hl3 := h14.1
 dsimp only [F.tree]; rw [decide_eq_true (by omega), cond_true]
 have h15 := h14.append (B := 0) hm2
 refine T.sat_gret (by rw [oY (by have := h15.1; omega) h15.2, oY hD.2.1 hD.2.2]; rfl) ?_
 refine T.sat_cond (fun _ => hq _ _ _ (by omega) h13 hD (fun _ => hw)) (fun _ =>?_)
 refine T.sat_bind (uY hD.1 hD.2.1 h13 fun n16 b h16 h17 =>?_)
 exact ⟨by omega, by omega, rfl, by simpa using fun _ => hm, h15⟩
theorem bGn (hg : got.length = N) (hN : N ≤ 100000) (hn : n ≤ N) (hr : ro = false) (hs : s.2 = []) (h0 : Dn s held) {a b : Int} (ha : aM a) (hb : aM b) : (bFv a b c got held).sat N (bQ ro) n s QD := by
 unfold bFv
 refine T.sat_cond (fun _ => ⟨h0, sm0⟩) (fun _ =>?_)
 refine T.sat_bind (aDh fun r =>?_)
 refine T.sat_cond (fun _ => ⟨h0, sm0⟩) (fun _ =>?_)
 refine T.sat_bind (bAz hg hN hn hr hs h0 (by simp) ⟨by simp, all2 ha hb⟩ (fun n1 s1 x1 h1 h2 hD hw1 =>?_) (fun n1 s1 x1 h1 h2 hD => ⟨hD, sm0⟩))
 refine T.sat_cond (fun _ => ⟨hD, sm0⟩) (fun hb =>?_)
 have hw := hw1 (by simpa using hb)
 refine T.sat_bind (T.sat_loop (fun n' s' v => n1 ≤ n' ∧ s' = s1 ∧ (v = 0 ∨ v = 1 ∨ v = 2)) ?_ _ _ _ _ (by omega) h2 ⟨by omega, rfl, .inl rfl⟩)
 rintro n3 s3 v14 ⟨h3, rfl, hv⟩ hn3
 unfold aDc aAn
 dsimp only
 refine T.sat_cond (fun hlt =>?_) (fun _ =>?_)
 ·have hi : inR v14 2 = true := by
   have := of_decide_eq_true hlt
   simp [inR]; omega
  have hv1 : w64 (v14 + 1) = 0 ∨ w64 (v14 + 1) = 1 ∨ w64 (v14 + 1) = 2 := by
   have := of_decide_eq_true hlt
   rcases hv with rfl | rfl | rfl
   ·exact .inr (.inl (by rw [aD] <;> omega))
   ·exact .inr (.inr (by rw [aD] <;> omega))
   ·omega
  dsimp only [F.tree]; rw [hi, cond_true]
  refine T.sat_bind (aI fun h4 x4 hx4 =>?_)
  refine T.sat_bind (T.sat_loop (fun n' s' x => n3 < n' ∧ s' = s3 ∧ aM x.2.1 ∧ aM x.2.2.2.1 ∧ aM x.2.2.2.2) ?_ _ _ _ _ (by omega) (by omega) ⟨by omega, rfl, wT, wT, hx4⟩)
  rintro n5 s5 ⟨v35, v36, v38, v39, v42⟩ ⟨h5, rfl, hv36, hv39, hv42⟩ hn5
  unfold aDb aAm
  dsimp only
  have hcont : ∀ {n : Nat}, n3 < n → n ≤ N → n3 < n ∧ n1 ≤ n ∧ s5 = s5 ∧ (w64 (v14 + 1) = 0 ∨ w64 (v14 + 1) = 1 ∨ w64 (v14 + 1) = 2) := fun h _ => ⟨h, by omega, rfl, hv1⟩
  refine T.sat_cond (fun _ => T.sat_cond (fun _ =>?_) (fun _ =>?_)) (fun _ =>?_)
  ·exact T.sat_bind (bJ hw fun h6 => T.sat_bind (bG fun h7 x7 hx7 => ⟨by omega, by omega, rfl, hv42, hv42, hx7⟩))
  ·exact T.sat_bind (bJ hw fun h6 => T.sat_bind (bG fun h7 x7 hx7 => ⟨by omega, by omega, rfl, hv36, hv42, hx7⟩))
  ·refine T.sat_cond (fun _ =>?_) (fun _ => hcont h5 hn5)
   exact T.sat_bind (aI fun h8 x8 hx8 => T.sat_bind (bJ hw fun h9 => T.sat_bind (bJ hw fun h10 => hcont (by omega) (by omega))))
 ·refine T.sat_bind (aI fun h4 x4 hx4 =>?_)
  refine T.sat_bind (T.sat_loop (fun n' s' x => n3 < n' ∧ s' = s3 ∧ aM x) ?_ _ _ _ _ (by omega) (by omega) ⟨by omega, rfl, hx4⟩)
  rintro n5 s5 v21 ⟨h5, rfl, hv21⟩ hn5
  unfold aDa aAl
  dsimp only
  refine T.sat_cond (fun _ =>?_) (fun _ =>?_)
  ·refine T.sat_bind (aI fun h6 x6 hx6 => T.sat_bind (bG fun h7 x7 hx7 => T.sat_bind (aI fun h8 x8 hx8 =>?_)))
   refine T.sat_bind (bAy hg (by omega) fun n9 b h9 h10 =>?_)
   refine T.sat_cond (fun _ =>?_) (fun _ =>?_)
   ·exact T.sat_bind (cC hw fun h11 => ⟨by omega, by omega, rfl, hx7⟩)
   ·exact T.sat_bind (bJ hw fun h11 => T.sat_bind (bJ hw fun h12 => ⟨by omega, by omega, rfl, hx7⟩))
  ·exact T.sat_bind (lN hw fun h6 => T.sat_bind (cC hw fun h7 => ⟨hD, sm0⟩))
theorem aNm (hg : got.length = N) (hN : N ≤ 100000) (hn : n ≤ N) (hs : s.2 = []) (h0 : Dn s held) {o : Opn} (ha : aM o.a) (hb : aM o.b) (hk : aM o.k) (hv : aM o.v) (hr : ¬ (o.kind = 6 ∨ o.kind = 7) → ro = false) : (aFp o c got held).sat N (bQ ro) n s QD := by
 unfold aFp
 have e : ∀ {k : Int} {P : Prop}, (o.kind == k) = true → ¬ (k = 6 ∨ k = 7) → ro = false := fun {k P} h h2 => hr (by rw [eq_of_beq h]; exact h2)
 refine T.sat_cond (fun h => T.sat_bind (bJc hg hn (e (P := True) h (by decide)) hs)) (fun _ =>?_)
 refine T.sat_cond (fun h => T.sat_bind (bGk hg hn (e (P := True) h (by decide)) hs h0 ha hb)) (fun _ =>?_)
 refine T.sat_cond (fun h => T.sat_bind (bJd hg hn (e (P := True) h (by decide)) h0)) (fun _ =>?_)
 refine T.sat_cond (fun h => T.sat_bind (aNk hg hn (e (P := True) h (by decide)) hs h0 ha hk hv)) (fun _ =>?_)
 refine T.sat_cond (fun h => T.sat_bind (aNl hg hn (e (P := True) h (by decide)) hs h0 ha)) (fun _ =>?_)
 refine T.sat_cond (fun h => T.sat_bind (bAw hg hN hn hs fun n1 x1 h1 h2 h3 => ⟨h0, h3⟩)) (fun _ =>?_)
 refine T.sat_cond (fun h => T.sat_bind (bAx hg hN hn hs fun n1 x1 h1 h2 h3 => ⟨h0, h3⟩)) (fun _ =>?_)
 refine T.sat_cond (fun h => T.sat_bind (bGl hg hN hn (e (P := True) h (by decide)) hs h0 ha)) (fun _ =>?_)
 refine T.sat_cond (fun h => T.sat_bind (bGn hg hN hn (e (P := True) h (by decide)) hs h0 ha hb)) (fun _ => ⟨h0, sm0⟩)
end
theorem T.sat_lift {σ σ2 α : Type} {N : Nat} {st : σ → Acc → Option σ} {st2 : σ2 → Acc → Option σ2} {f : σ → σ2} (hf : ∀ s c s', st s c = some s' → st2 (f s) c = some (f s')) {t : T α} : ∀ {n : Nat} {s : σ} {Q : Nat → σ → α → Prop}, t.sat N st n s Q → t.sat N st2 n (f s) (fun n x a => ∃ s', x = f s' ∧ Q n s' a) := by
 induction t with
 | ret a => intro n s Q h; exact ⟨s, rfl, h⟩
 | ask c k ih => rintro n s Q ⟨s', h1, h2⟩; exact ⟨f s', hf _ _ _ h1, fun hn x hx => ih x (h2 hn x hx)⟩
 | bot => intro n s Q h; exact h
def bare (k : Int) (a : Acc) : Bool := a.kind == k && a.at_ == 0 && a.which == 0 && a.ref == 0 && a.field == 0 && a.value == 0
def vC (ro : Bool) (s : Nat × RS) (a : Acc) : Option (Nat × RS) :=
 if s.1 = 0 then (if bare 1 a then some (1, s.2) else none)
 else if s.1 = 1 then (if a.kind = 2 then (if bare 2 a ∧ s.2.2 = [] then some (2, s.2) else none) else (bQ ro s.2 a).map fun s' => (1, s'))
 else none
theorem aFv {ro : Bool} {s s' : RS} {a : Acc} (h : bQ ro s a = some s') : a.kind = 3 ∨ a.kind = 4 ∨ a.kind = 5 ∨ a.kind = 6 ∨ a.kind = 7 ∨ a.kind = 8 ∨ a.kind = 9 := by
 unfold bQ at h
 split at h
 ·exact .inl ‹_›
 ·split at h
  ·simp [*]
  ·split at h
   ·simp [*]
   ·split at h
    ·simp [*]
    ·split at h
     ·simp [*]
     ·split at h
      ·rename_i h5
       rcases h5 with h5 | h5 <;> simp [h5]
      ·cases h
theorem bJe {N : Nat} {ro : Bool} {c : Cfg} {o : Opn} {got : List Int} (hg : got.length = N) (hN : N ≤ 100000) (ha : aM o.a) (hb : aM o.b) (hk : aM o.k) (hv : aM o.v) (hr : ¬ (o.kind = 6 ∨ o.kind = 7) → ro = false) :
  (nV c o got).sat N (vC ro) 0 (0, (false, [])) (fun _ s r => s.1 = 2 ∧ s.2.2 = [] ∧ Sm r) := by
 unfold nV
 refine T.sat_ask (s' := (1, (false, []))) (by simp [vC, bare]) (fun h1 x1 hx1 =>?_)
 refine T.sat_bind (T.sat_mono (T.sat_le (T.sat_lift (f := fun s : RS => ((1, s) : Nat × RS)) (st := bQ ro) (fun s c s' h =>?_) (aNm hg hN h1 (s := (false, [])) rfl ⟨rfl, by simp, fun x hx => (by cases hx)⟩ ha hb hk hv hr)) h1) ?_)
 ·have := aFv h
  simp only [vC]
  rw [if_neg (by decide), if_pos trivial, if_neg (by omega), h]
  rfl
 ·rintro n s ⟨r, held⟩ ⟨h2, h3, s', rfl, hD, hS⟩
  refine T.sat_bind (T.sat_mono (T.sat_lift (f := fun s : RS => ((1, s) : Nat × RS)) (st := bQ ro) (fun s c s' h =>?_) (uY (Q := fun n' s' _ => n ≤ n' ∧ n' ≤ N ∧ s'.2 = []) hD.1 hD.2.1 h3 (fun n' b h4 h5 => ⟨h4, h5, rfl⟩))) ?_)
  ·have := aFv h
   simp only [vC]
   rw [if_neg (by decide), if_pos trivial, if_neg (by omega), h]
   rfl
  ·rintro n4 s4 ⟨⟩ ⟨s5, rfl, h4, h5, h6⟩
   refine T.sat_ask (s' := (2, s5)) ?_ (fun _ _ _ => ⟨rfl, h6, hS⟩)
   simp [vC, h6, bare]
theorem bGo {N : Nat} {ro : Bool} {c : Cfg} {o : Opn} {got : List Int} (hg : got.length = N) (hN : N ≤ 100000) (hx : ∀ x ∈ got, aM x) (ha : aM o.a) (hb : aM o.b) (hk : aM o.k) (hv : aM o.v) (hr : ¬ (o.kind = 6 ∨ o.kind = 7) → ro = false) :
  (∃ r d b, (nV c o got).exec got [] = .ok r d ∧ pU (vC ro) (0, (false, [])) d = some (2, (b, [])) ∧ d.length ≤ N ∧ Sm r) ∨ (∃ d s, (nV c o got).exec got [] = .stop d ∧ pU (vC ro) (0, (false, [])) d = some s ∧ d.length = N + 1) := by
 rcases T.sat_exec hg (by omega) hx (d := []) (by simp) (bJe (c := c) hg hN ha hb hk hv hr) with ⟨a, e, ⟨p, b, l⟩, h1, h2, ⟨h3, h4, h6⟩, h5⟩ | ⟨e, s', h1, h2, h3⟩
 ·dsimp only at h3 h4
  subst h3 h4
  exact .inl ⟨a, e, b, by simpa using h1, h2, by simpa using h5, h6⟩
 ·exact .inr ⟨e, s', by simpa using h1, h2, by simpa using h3⟩
end Go.Ax.Cd
