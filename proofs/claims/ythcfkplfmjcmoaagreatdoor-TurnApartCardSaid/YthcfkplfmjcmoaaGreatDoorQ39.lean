/- Merged. -/
import Derived.Test.YthcfkplfmjcmoaaGreatDoorQ35
import Derived.Test.YthcfkplfmjcmoaaGreatDoorQ38
namespace Go.Ax.Cd
set_option linter.unusedVariables false
def plainO (o : Opn) : Option Opn := kU [o.kind, o.a, o.b, o.k, o.v]
theorem bBh (o : Opn) : linPlnN ((o, ()), ()) = some ((((plainO o).getD ⟨0, 0, 0, 0, 0⟩), (plainO o).isSome, ()), ()) := by
 show rB o = _
 unfold rB plainO kU
 dsimp only
 obtain ⟨k, a, b, x, v⟩ := o
 dsimp only
 by_cases h1 : k = 1
 ·subst h1; rfl
 rw [gZ h1, if_neg h1]
 by_cases h2 : k = 2
 ·subst h2; rfl
 rw [gZ h2]
 by_cases h9 : k = 9
 ·subst h9; rfl
 rw [gZ h9, if_neg (by omega)]
 by_cases h4 : k = 4
 ·subst h4; rfl
 rw [gZ h4, if_neg h4]
 by_cases h5 : k = 5
 ·subst h5; rfl
 rw [gZ h5, if_neg h5]
 by_cases h3 : k = 3
 ·subst h3; rfl
 rw [gZ h3]
 by_cases h6 : k = 6
 ·subst h6; rfl
 rw [gZ h6]
 by_cases h7 : k = 7
 ·subst h7; rfl
 rw [gZ h7]
 by_cases h8 : k = 8
 ·subst h8; rfl
 rw [gZ h8, if_neg (by omega)]
 rfl
def five (p : Opn) : List Int := [p.kind, p.a, p.b, p.k, p.v]
def gX (l : List Opn) : List Int := (l.filterMap plainO).flatMap five
theorem aOd {o p : Opn} (h : plainO o = some p) : plainO p = some p := by
 obtain ⟨k, a, b, x, v⟩ := o
 unfold plainO kU at h
 dsimp only at h
 by_cases h1 : k = 1
 ·rw [if_pos h1] at h; cases h; rfl
 rw [if_neg h1] at h
 by_cases h2 : k = 2 ∨ k = 9
 ·rw [if_pos h2] at h; cases h
  show kU [k, a, b, 0, 0] = _
  unfold kU
  dsimp only
  rw [if_neg h1, if_pos h2]
 rw [if_neg h2] at h
 by_cases h4 : k = 4
 ·rw [if_pos h4] at h; cases h; rfl
 rw [if_neg h4] at h
 by_cases h5 : k = 5
 ·rw [if_pos h5] at h; cases h; rfl
 rw [if_neg h5] at h
 by_cases h3 : k = 3 ∨ k = 6 ∨ k = 7 ∨ k = 8
 ·rw [if_pos h3] at h; cases h
  show kU [k, a, 0, 0, 0] = _
  unfold kU
  dsimp only
  rw [if_neg h1, if_neg h2, if_neg h4, if_neg h5, if_pos h3]
 rw [if_neg h3] at h
 cases h
theorem bHd {o p : Opn} (ho : Op64 o) (h : plainO o = some p) : Op64 p := by
 obtain ⟨k, a, b, x, v⟩ := o
 obtain ⟨h1, h2, h3, h4⟩ := ho
 unfold plainO kU at h
 dsimp only at h h1 h2 h3 h4
 split at h
 ·cases h; exact ⟨fY, fY, fY, fY⟩
 split at h
 ·cases h; exact ⟨h1, h2, fY, fY⟩
 split at h
 ·cases h; exact ⟨h1, fY, h3, h4⟩
 split at h
 ·cases h; exact ⟨h1, fY, h3, fY⟩
 split at h
 ·cases h; exact ⟨h1, fY, fY, fY⟩
 ·cases h
theorem aOe : ∀ n, kV n [] = []
 | 0 => rfl
 | n + 1 => by
  show (kU ([] : List Int)).toList ++ kV n [] = []
  rw [aOe n]
  rfl
theorem aFz : ∀ (l : List Opn) (n : Nat), (∀ p ∈ l, plainO p = some p) → l.length ≤ n → kV n (l.flatMap five) = l
 | [], n, _, _ => aOe n
 | p :: l, 0, _, h => by simp at h
 | p :: l, n + 1, hp, h => by
  have e1 : ((p :: l).flatMap five).take 5 = five p := rfl
  have e2 : ((p :: l).flatMap five).drop 5 = l.flatMap five := rfl
  show (kU (((p :: l).flatMap five).take 5)).toList ++ kV n (((p :: l).flatMap five).drop 5) = _
  rw [e1, e2, aFz l n (fun q hq => hp q (by simp [hq])) (by simpa using h), show kU (five p) = some p from hp p (by simp)]
  rfl
theorem aDm : ∀ (l : List Opn), (l.flatMap five).length = 5 * l.length
 | [] => rfl
 | p :: l => by
  rw [List.flatMap_cons, List.length_append, aDm l]
  simp [five]
  omega
theorem aUa (l : List Opn) : kV (gX l).length (gX l) = l.filterMap plainO := by
 unfold gX
 refine aFz _ _ (fun p hp =>?_) (by rw [aDm]; omega)
 obtain ⟨o, _, ho⟩ := List.mem_filterMap.1 hp
 exact aOd ho
theorem bBi (a : List Opn) (o : Opn) : gX (a ++ [o]) = gX a ++ (match plainO o with | some p => five p | none => []) := by
 unfold gX
 rw [List.filterMap_append, List.flatMap_append]
 congr 1
 cases h : plainO o <;> simp [h]
theorem aGa (l : List Opn) : (gX l).length ≤ 5 * l.length := by
 unfold gX
 rw [aDm]
 have := List.length_filterMap_le plainO l
 omega
theorem bBj {l : List Opn} (h : l.length ≤ 100000000) : linWriN ((l, ()), ()) = some ((gX l, ()), ()) := by
 show aBd linPlnN linWriL0N l = _
 unfold aBd
 have hL : linWriL0N (((), l, Int.ofNat l.length, 0, ()), [], ()) = some (((), ()), gX l, ()) := by
  have := vY (B := linWriL0E.un (jZ linPlnN)) (fun i => (((), l, Int.ofNat l.length, (i : Int), ()), gX (l.take i), ())) (k := l.length) (y := (((), ()), gX l, ())) (by omega) (fun i hi =>?_) ?_
  ·exact this
  ·show jZ linPlnN l (Int.ofNat l.length) (i : Int) (gX (l.take i)) = _
   unfold jZ
   have h3 := aGa (l.take i)
   have h4 : (l.take i).length ≤ l.length := by simp; omega
   rw [decide_eq_true (by simp; omega), aU hi, gH hi (by omega), cV (e := EK.st SN.opn) l i hi, bBh, List.take_succ_eq_append_getElem hi, bBi]
   simp only [cond_true, Option.bind_some]
   cases hp : plainO l[i] with
   | none => simp
   | some p =>
    simp only [Option.isSome_some, Option.getD_some, cond_true]
    rw [decide_eq_true (by simp; omega)]
    rfl
  ·show jZ linPlnN l (Int.ofNat l.length) (l.length : Int) (gX (l.take l.length)) = _
   unfold jZ
   rw [decide_eq_false (by simp), List.take_length]
   rfl
 rw [hL]
 rfl
theorem bBk {l : List Int} (h : l.length ≤ 1000000) : linOpsN ((l, ()), ()) = some ((kV l.length l, ()), ()) := by
 show (bif decide (l.length ≤ 1000000) then some ((kV l.length l, ()), ()) else none) = _
 rw [decide_eq_true h]
 rfl
def newE (n : Nat) : Era := ⟨0, List.replicate n (-1)⟩
def cL (n : Nat) : Pool := ⟨List.replicate n 0, List.replicate n 0, List.replicate n 0, (List.range n).map Int.ofNat⟩
def newM (c : Cfg) : List Int := ((List.replicate (cN c).toNat (0 : Int)).set 0 1).set 1 1
def vI (c : Cfg) (n : Nat) : Shr := ⟨newM c, List.replicate (c.ids + 1).toNat 0, cL c.nodes.toNat, cL c.edges.toNat, cL c.props.toNat, newE n⟩
theorem aOf (n : Nat) : List.flatten (List.replicate n [(-1 : Int)]) = List.replicate n (-1) := by
 induction n with
 | zero => rfl
 | succ n ih => rw [List.replicate_succ, List.flatten_cons, ih]; rfl
theorem bBl {n : Nat} (h1 : 1 ≤ n) (h2 : n ≤ 64) : eraNewN (((n : Int), ()), ()) = some ((newE n, 0, ()), ()) := by
 show aBa repIN (n : Int) = _
 unfold aBa
 rw [decide_eq_false (by omega), decide_eq_false (by omega)]
 have e : repIN (([-1], (n : Int), ()), ()) = some ((List.replicate n (-1), ()), ()) := by
  show (bif decide (([-1] : List Int).length = 1) && decide (1 ≤ (n : Int)) && decide ((n : Int) ≤ 64) then some ((List.flatten (List.replicate (n : Int).toNat [-1]), ()), ()) else none) = _
  rw [decide_eq_true (show 1 ≤ (n : Int) by omega), decide_eq_true (show (n : Int) ≤ 64 by omega), Int.toNat_natCast, aOf]
  rfl
 rw [e]
 rfl
theorem sH {n : Nat} (h1 : 1 ≤ n) (h2 : n ≤ 64) : PoolOk (cL n) := by
 have hg : ∀ i, gD (List.replicate n 0) i = 0 := fun i => by
  simp only [gD, List.getD_eq_getElem?_getD, List.getElem?_replicate]
  split <;> rfl
 refine ⟨by simpa [cL] using h1, by simpa [cL] using h2, by simp [cL], by simp [cL], fun i hi =>?_, ?_, fun x hx =>?_, fun i hi h0 =>?_⟩
 ·simp only [cL, hg]
  decide
 ·refine List.Pairwise.map _ (fun a b (hab : a ≠ b) =>?_) List.nodup_range
  simp; omega
 ·obtain ⟨k, hk, rfl⟩ := List.mem_map.1 hx
  have := List.mem_range.1 hk
  simp only [cL, hg]
  simp
  omega
 ·simp only [cL, List.length_replicate] at hi
  exact List.mem_map.2 ⟨i, List.mem_range.2 hi, rfl⟩
theorem bJp {n : Nat} (h1 : 1 ≤ n) (h2 : n ≤ 64) : EraOk (newE n) := ⟨by simp [newE], by simp [newE], by simpa [newE] using h1, by simpa [newE] using h2, fun m hm => .inl (List.eq_of_mem_replicate hm)⟩
theorem bJq {c : Cfg} (h : cM c = true) {n : Nat} (h1 : 1 ≤ n) (h2 : n ≤ 64) : ShOk c (vI c n) := by
 have hc := pV h
 have hs := aCh c
 refine ⟨h, ⟨sH (by omega) (by omega), sH (by omega) (by omega), sH (by omega) (by omega), bJp h1 h2⟩, ?_, ?_, ?_, ?_, ?_, fun w hw =>?_⟩
 ·simp [vI, newM]; omega
 ·simp [vI]; omega
 ·simp [vI, cL]; omega
 ·simp [vI, cL]; omega
 ·simp [vI, cL]; omega
 ·rw [List.eq_of_mem_replicate hw]; rfl
theorem bJr (c : Cfg) : ∀ x ∈ newM c, aM x := fun x hx => by
 unfold newM at hx
 rcases List.mem_or_eq_of_mem_set hx with hx | rfl
 ·rcases List.mem_or_eq_of_mem_set hx with hx | rfl
  ·rw [List.eq_of_mem_replicate hx]; exact fY
  ·exact ⟨by decide, by decide⟩
 ·exact ⟨by decide, by decide⟩
theorem aDn {n : Int} (h1 : 1 ≤ n) (h2 : n ≤ 64) : polNewN ((n, ()), ()) = some ((cL n.toNat, 0, ()), ()) := by
 rw [aXr]
 unfold aHa
 rw [if_pos ⟨h1, h2⟩]
 rfl
theorem bBm {c : Cfg} (h : cM c = true) : plcNewN ((c, ()), ()) = some ((newM c, 0, ()), ()) := by
 show yN plcChkN memNewN plcSizN c = _
 unfold yN
 have hc := pV h
 have hs := aCh c
 have hs2 : 2 ≤ cN c := by unfold cN; rw [h]; simp only [cond_true]; omega
 rw [nQ, h, vZ]
 simp only [cond_true, Option.bind_some, bne_self_eq_false, cond_false]
 have e : memNewN ((cN c, ()), ()) = some (((), 0, ()), List.replicate (cN c).toNat 0, ()) := by
  show yK (cN c) = _
  unfold yK
  rw [decide_eq_false (by omega), decide_eq_false (by omega), decide_eq_true (show 0 ≤ cN c by omega), decide_eq_true (show cN c ≤ 1000000000 by omega)]
  rfl
 rw [e]
 simp only [Option.bind_some, bne_self_eq_false, cond_false]
 rw [show inR 0 (List.replicate (cN c).toNat (0 : Int)).length = true by simp [inR]; omega, show inR 1 (wrE EK.int (List.replicate (cN c).toNat (0 : Int)) 0 1).length = true by simp [inR, wrE, wr]; omega]
 rfl
theorem bBn (c : Cfg) {n : Nat} (h1 : 1 ≤ n) (h2 : n ≤ 64) : askNewN ((c, (n : Int), ()), ()) = some ((bif cM c then (vI c n, 0, ()) else (zS, 1, ())), ()) := by
 show aBc plcNewN arnNewN c (n : Int) = _
 unfold aBc
 have e : arnNewN ((c, (n : Int), ()), ()) = some ((bif cM c then (⟨[], [], cL c.nodes.toNat, cL c.edges.toNat, cL c.props.toNat, newE n⟩, 0, ()) else (zS, 1, ())), ()) := by
  show aBb plcChkN polNewN eraNewN c (n : Int) = _
  unfold aBb
  rw [nQ]
  cases h : cM c with
  | false => rfl
  | true =>
   have hc := pV h
   simp only [cond_true, Option.bind_some, bne_self_eq_false, cond_false]
   rw [bBl h1 h2, aDn (by omega) (by omega), aDn (by omega) (by omega), aDn (by omega) (by omega)]
   rfl
 rw [e]
 cases h : cM c with
 | false => rfl
 | true =>
  have hc := pV h
  simp only [cond_true, Option.bind_some, bne_self_eq_false, cond_false]
  rw [bBm h, bF (n := c.ids + 1) (by omega) (by omega), decide_eq_true (show 0 ≤ c.ids + 1 by omega), decide_eq_true (show c.ids + 1 ≤ 1000000000 by omega)]
  rfl
def zW : Wld := ⟨zS, [], [], []⟩
def wW (l : List Opn) : Thr := ⟨l.filterMap plainO, 0, false, []⟩
def newW (c : Cfg) (ops : List (List Opn)) : Wld := ⟨vI c ops.length, ops.map wW, [], []⟩
def newB (c : Cfg) (ops : List (List Opn)) : Bool := decide (1 ≤ ops.length) && decide (ops.length ≤ 64) && decide ((List.flatten ops).length ≤ 64) && cM c
theorem bJs {l : List (List Opn)} (h : (List.flatten l).length ≤ 1000000000) (h2 : l.length ≤ 1000000000) : conON ((l, ()), ()) = some ((List.flatten l, ()), ()) := by
 show (bif decide ((List.flatten l).length ≤ 1000000000) && decide (l.length ≤ 1000000000) then some ((List.flatten l, ()), ()) else none) = _
 rw [decide_eq_true h, decide_eq_true h2]
 rfl
theorem pH {l : List Opn} : ∀ {ops : List (List Opn)}, l ∈ ops → l.length ≤ (List.flatten ops).length
 | [], h => by cases h
 | a :: ops, h => by
  rw [List.flatten_cons, List.length_append]
  rcases List.mem_cons.1 h with rfl | h
  ·omega
  ·have := pH h
   omega
theorem bBo (c : Cfg) {ops : List (List Opn)} (h0 : (List.flatten ops).length ≤ 1000000000) (h00 : ops.length ≤ 1000000000) : trnNewN ((c, ops, ()), ()) = some ((bif newB c ops then (newW c ops, 0, ()) else (zW, 1, ())), ()) := by
 show aBe askNewN linWriN conON linOpsN trnNewL0N c ops = _
 unfold aBe newB
 rw [bJs h0 h00]
 simp only [Option.bind_some]
 by_cases h1 : 1 ≤ ops.length
 rotate_left
 ·rw [decide_eq_true (show Int.ofNat ops.length < 1 by simp; omega), decide_eq_false h1]; rfl
 by_cases h2 : ops.length ≤ 64
 rotate_left
 ·rw [decide_eq_false (show ¬ Int.ofNat ops.length < 1 by simp; omega), decide_eq_true (show Int.ofNat ops.length > 64 by simp; omega), decide_eq_true h1, decide_eq_false h2]; rfl
 by_cases h3 : (List.flatten ops).length ≤ 64
 rotate_left
 ·rw [decide_eq_false (show ¬ Int.ofNat ops.length < 1 by simp; omega), decide_eq_false (show ¬ Int.ofNat ops.length > 64 by simp; omega), decide_eq_true (show Int.ofNat (List.flatten ops).length > 64 by simp only [Int.ofNat_eq_natCast]; omega), decide_eq_true h1, decide_eq_true h2, decide_eq_false h3]; rfl
 rw [decide_eq_false (show ¬ Int.ofNat ops.length < 1 by simp; omega), decide_eq_false (show ¬ Int.ofNat ops.length > 64 by simp; omega), decide_eq_false (show ¬ Int.ofNat (List.flatten ops).length > 64 by simp only [Int.ofNat_eq_natCast]; omega), decide_eq_true h1, decide_eq_true h2, decide_eq_true h3, show askNewN ((c, Int.ofNat ops.length, ()), ()) = _ from bBn c h1 h2]
 simp only [Option.bind_some, cond_false, Bool.true_and]
 cases h : cM c with
 | false => rfl
 | true =>
  simp only [cond_true, bne_self_eq_false, cond_false]
  rw [decide_eq_true (show 0 ≤ Int.ofNat ops.length by simp), decide_eq_true (show Int.ofNat ops.length ≤ 1000000000 by simp; omega)]
  simp only [Bool.and_self, cond_true]
  generalize (Wld.mk (Shr.mk [] [] (Pool.mk [] [] [] []) (Pool.mk [] [] [] []) (Pool.mk [] [] [] []) (Era.mk 0 [])) [] [] []) = w0
  have hL : trnNewL0N (((), (), ops, Int.ofNat ops.length, 0, ()), (w0, ()), (vI c ops.length, (), (), (), ()), List.replicate (Int.ofNat ops.length).toNat (Thr.mk [] 0 false []), ()) = some (((), (), ()), (w0, ()), (vI c ops.length, (), (), (), ()), ops.map wW, ()) := by
   have := vY (B := trnNewL0E.un (kA linWriN linOpsN)) (fun i => (((), (), ops, Int.ofNat ops.length, (i : Int), ()), (w0, ()), (vI c ops.length, (), (), (), ()), (ops.take i).map wW ++ List.replicate (ops.length - i) (Thr.mk [] 0 false []), ())) (k := ops.length) (y := (((), (), ()), (w0, ()), (vI c ops.length, (), (), (), ()), ops.map wW, ())) (by omega) (fun i hi =>?_) ?_
   ·exact this
   ·show kA linWriN linOpsN ops (Int.ofNat ops.length) (i : Int) w0 (vI c ops.length) ((ops.take i).map wW ++ List.replicate (ops.length - i) (Thr.mk [] 0 false [])) = _
    unfold kA
    have hlen := pH (List.getElem_mem hi)
    have hwl := aGa ops[i]
    have hxl : ((ops.take i).map wW ++ List.replicate (ops.length - i) (Thr.mk [] 0 false [])).length = ops.length := by simp; omega
    rw [decide_eq_true (by simp; omega), aU hi, cV (e := (EK.st SN.opn).sl) ops i hi, bBj (by omega)]
    simp only [cond_true, Option.bind_some]
    rw [bBk (by omega), aUa, aU (show i < ((ops.take i).map wW ++ List.replicate (ops.length - i) (Thr.mk [] 0 false [])).length by omega), gH hi (by omega)]
    simp only [cond_true, Option.bind_some]
    obtain ⟨q, hq⟩ : ∃ q, ops.length - i = q + 1 := ⟨ops.length - i - 1, by omega⟩
    have hz : rdE (EK.st SN.thr) ((ops.take i).map wW ++ List.replicate (ops.length - i) (Thr.mk [] 0 false [])) (i : Int) = Thr.mk [] 0 false [] := by
     rw [hq]
     simp [rdE, rd, List.getElem?_append_right, hi, Nat.min_eq_left (Nat.le_of_lt hi)]
    have e : wrE (EK.st SN.thr) ((ops.take i).map wW ++ List.replicate (ops.length - i) (Thr.mk [] 0 false [])) (i : Int) (wW ops[i]) = (ops.take (i + 1)).map wW ++ List.replicate (ops.length - (i + 1)) (Thr.mk [] 0 false []) := by
     rw [show ops.length - (i + 1) = q by omega, hq, List.take_succ_eq_append_getElem hi, List.map_append, List.append_assoc]
     simp only [wrE, wr, Int.toNat_natCast]
     rw [List.set_append_right _ _ (by simp; omega), List.replicate_succ]
     congr 1
     simp [Nat.min_eq_left (Nat.le_of_lt hi)]
    rw [hz]
    have e' := e
    unfold wW at e' ⊢
    rw [e']
   ·show kA linWriN linOpsN ops (Int.ofNat ops.length) (ops.length : Int) w0 (vI c ops.length) ((ops.take ops.length).map wW ++ List.replicate (ops.length - ops.length) (Thr.mk [] 0 false [])) = _
    unfold kA
    rw [decide_eq_false (by simp)]
    simp
  rw [hL]
  rfl
theorem bJt {c : Cfg} {ops : List (List Opn)} (h : newB c ops = true) (ho : ∀ l ∈ ops, ∀ o ∈ l, Op64 o) : WOk 0 c (newW c ops) := by
 unfold newB at h
 simp only [Bool.and_eq_true, decide_eq_true_eq] at h
 obtain ⟨⟨⟨h1, h2⟩, h3⟩, h4⟩ := h
 refine ⟨bJq h4 h1 h2, bJr c, by simpa [newW] using h2, fun x hx =>?_, by simp [newW], by simp [newW], fun e he => by cases he⟩
 obtain ⟨l, hl, rfl⟩ := List.mem_map.1 hx
 have := pH hl
 have h5 := List.length_filterMap_le plainO l
 refine ⟨by show (l.filterMap plainO).length ≤ 64; omega, fun o hoo =>?_, Int.le_refl 0, by show (0 : Int) ≤ _; exact Int.natCast_nonneg _, Nat.zero_le _, fun y hy => by cases hy⟩
 obtain ⟨p, hp, hpo⟩ := List.mem_filterMap.1 hoo
 exact bHd (ho l hl p hp) hpo
noncomputable def plyW (c : Cfg) (w : Wld) (l : List Int) : Wld := l.foldl (fun w t => (step c w t).1) w
theorem aWm {c : Cfg} : ∀ {l : List Int} {n : Nat} {w : Wld}, WOk n c w → n + l.length ≤ 50000 → WOk (n + l.length) c (plyW c w l)
 | [], n, w, h, _ => h
 | t :: l, n, w, h, hn => by
  simp only [List.length_cons] at hn ⊢
  have := aWm (l := l) (aWj h (by omega) t) (by omega)
  rw [show n + (l.length + 1) = n + 1 + l.length by omega]
  exact this
theorem bHe (c : Cfg) (w : Wld) (a b : List Int) : plyW c w (a ++ b) = plyW c (plyW c w a) b := by simp [plyW]
open Go.Proofs
set_option maxRecDepth 100000
noncomputable abbrev l19plaE : Fe := ⟨67, Tryz.f67, [], [], [.s (.e (.st .cfg))], []⟩
noncomputable def aWn : Option l19plaE.Y := some ((Cfg.mk 2 2 2 2 2, ()), ())
noncomputable def l19plaN : l19plaE.T := l19plaE.un aWn
theorem aUb (x) : l19plaE.run [] [] [] x = l19plaE.un (aWn) x := by kernel_rfl
theorem l19pla_ok : l19plaE.Ok l19plaN := Fe.k (by kernel_rfl) g0 (aA (by kernel_rfl)) (aUb)
noncomputable abbrev l19lv0L0E : Le := ⟨0, Tryz.f23, 0, [1, 2, 14], [pm, vi, vi], [.box [.e (.st .wld)]], ((Fin.one 0 Tryz.f23.ntmps (.exit 0) [1] [pm] [.box [.e (.st .wld)]]).or (Fin.one 0 Tryz.f23.ntmps .ret [0] [vb] []))⟩
noncomputable def aGb (p0 : trnDonE.T) (p1 : trnStpE.T) (p2 : l19plaE.T) (v1 v2 : Int) (v3 : Wld) : Option (l19lv0L0E.X ⊕ l19lv0L0E.fin.Y) := bif decide (v2 < 12) then (p2 ((), ())).bind fun z => (p1 ((z.1.1, v3, 0, ()), ())).bind fun z => bif v1 != 0 then some (Sum.inr (Sum.inr ((false, ()), ()))) else bif !z.1.2.1 then some (Sum.inr (Sum.inr ((false, ()), ()))) else (p0 ((z.1.1, 0, ()), ())).bind fun z1 => bif !z1.1.1 == (v2 == 11) then some (Sum.inr (Sum.inr ((false, ()), ()))) else some (Sum.inl (((), v1, w64 (v2 + 1), ()), (z.1.1, ()), ())) else some (Sum.inr (Sum.inl (((), ()), (v3, ()), ())))
noncomputable def l19lv0L0N : l19lv0L0E.T := l19lv0L0E.lp (l19lv0L0E.un (aGb trnDonN trnStpN l19plaN))
theorem aIp (p0 : trnDonE.T) (p1 : trnStpE.T) (p2 : l19plaE.T) (x) : l19lv0L0E.run [trnDonE.on p0, trnStpE.on p1, l19plaE.on p2] [] [] x = l19lv0L0E.un (aGb p0 p1 p2) x := by kernel_rfl
theorem aOg : l19lv0L0E.Ok l19lv0L0N := Le.k (fo f1 f1) (trnDon_ok.k (trnStp_ok.k (l19pla_ok.k g0))) (aA (by kernel_rfl)) (aIp trnDonN trnStpN l19plaN)
noncomputable abbrev l19lv0E : Fe := ⟨23, Tryz.f23, [], [], [vb], []⟩
noncomputable def aWo (p0 : trnDonE.T) (p1 : trnStpE.T) (p2 : trnNewE.T) (p3 : l19plaE.T) (p4 : l19lv0L0E.T) : Option l19lv0E.Y := (p3 ((), ())).bind fun z => (p2 ((z.1.1, [[Opn.mk 1 0 0 0 0]], ()), ())).bind fun z => (p4 (((), z.1.2.1, 0, ()), (z.1.1, ()), ())).bind fun z => aH z (fun z => bif Int.ofNat z.2.1.1.events.length == 2 then bif inR 1 z.2.1.1.events.length then bif (rdE (EK.st SN.ev) z.2.1.1.events 1).done then bif inR 1 z.2.1.1.events.length then some (((rdE (EK.st SN.ev) z.2.1.1.events 1).result.id == 1, ()), ()) else none else some ((false, ()), ()) else none else some ((false, ()), ())) fun z => some ((z.1.1, ()), ())
noncomputable def l19lv0N : l19lv0E.T := l19lv0E.un (aWo trnDonN trnStpN trnNewN l19plaN l19lv0L0N)
theorem aUc (p0 : trnDonE.T) (p1 : trnStpE.T) (p2 : trnNewE.T) (p3 : l19plaE.T) (p4 : l19lv0L0E.T) (x) : l19lv0E.run [trnDonE.on p0, trnStpE.on p1, trnNewE.on p2, l19plaE.on p3] [(3, l19lv0L0E.on p4)] [] x = l19lv0E.un (aWo p0 p1 p2 p3 p4) x := by kernel_rfl
theorem l19lv0_ok : l19lv0E.Ok l19lv0N := Fe.k (by kernel_rfl) (trnDon_ok.k (trnStp_ok.k (trnNew_ok.k (l19pla_ok.k g0)))) (bD (by kernel_rfl) (lsc (by kernel_rfl) aOg rfl lsn)) (aUc trnDonN trnStpN trnNewN l19plaN l19lv0L0N)
theorem l19lv0_val : l19lv0N ((), ()) = some ((true, ()), ()) := by kernel_rfl
noncomputable abbrev l19livE : Fe := ⟨23, Tryz.f23, [], [], [vb], []⟩
noncomputable def l19livN : l19livE.T := fun _ => some ((true, ()), ())
theorem l19liv_ok : l19livE.Ok l19livN := ⟨l19lv0_ok.c, aTg l19lv0_ok.s (fun x y h => l19lv0_val.trans h)⟩
noncomputable abbrev l19mayE : Fe := ⟨24, Tryz.f24, [.s (.e (.st .cfg)), .s (.e (.sl (.sl (.st .opn)))), .s (.e (.sl .int)), vi], [], [vb], []⟩
noncomputable def aBf (p0 : rFewWE.T) (p1 : rCfgE.T) (c : Cfg) (ops : List (List Opn)) (picks : List Int) (most : Int) : Option l19mayE.Y := (p1 ((c, ()), ())).bind fun z => bif z.1.1 == 0 then (p0 ((c, ops, picks, most, ()), ())).bind fun z => some ((z.1.1, ()), ()) else some ((false, ()), ())
noncomputable def l19mayN : l19mayE.T := l19mayE.un (aBf rFewWN rCfgN)
theorem aUd (p0 : rFewWE.T) (p1 : rCfgE.T) (x) : l19mayE.run [rFewWE.on p0, rCfgE.on p1] [] [] x = l19mayE.un (aBf p0 p1) x := by kernel_rfl
theorem l19may_ok : l19mayE.Ok l19mayN := Fe.k (by kernel_rfl) (rFewW_ok.k (rCfg_ok.k g0)) (aA (by kernel_rfl)) (aUd rFewWN rCfgN)
noncomputable abbrev lApartL0E : Le := ⟨0, Tryz.f5, 0, [3, 7, 35, 36, 37], [pm, .s (.ptr 1 0), .s (.e (.sl .int)), vi, vi], [.box [.e (.st .cfg)], .box [.e (.st .wld)]], ((Fin.one 0 Tryz.f5.ntmps (.exit 0) [] [] []).or (Fin.one 0 Tryz.f5.ntmps .ret [6] [vb] []))⟩
noncomputable def gN (p0 : askDoE.T) (p1 : trnAskE.T) (p2 : trnStpE.T) (p3 : rSameSE.T) (p4 : rSameEvE.T) (p5 : rSameWE.T) (v2 : List Int) (v3 v4 : Int) (v5 : Cfg) (v6 : Wld) : Option (lApartL0E.X ⊕ lApartL0E.fin.Y) := bif decide (v4 < v3) then bif inR v4 v2.length then (p1 ((v5, v6, rdE EK.int v2 v4, ()), ())).bind fun z => (p2 ((v5, v6, rdE EK.int v2 v4, ()), ())).bind fun z1 => bif !z1.1.2.1 then (p5 ((z1.1.1, v6, ()), ())).bind fun z => bif !z.1.1 then some (Sum.inr (Sum.inr ((false, ()), ()))) else some (Sum.inl (((), (), v2, v3, w64 (v4 + 1), ()), (v5, ()), (v6, ()), ())) else (p0 ((v5, v6.shared, rdE EK.int v2 v4, z.1.1, ()), ())).bind fun z2 => bif !z.1.2.1 then some (Sum.inr (Sum.inr ((false, ()), ()))) else bif z2.1.2.2.2.1 != 0 then some (Sum.inr (Sum.inr ((false, ()), ()))) else (p3 ((z2.1.1, z1.1.1.shared, ()), ())).bind fun z => bif !z.1.1 then some (Sum.inr (Sum.inr ((false, ()), ()))) else bif Int.ofNat z1.1.1.touches.length != w64 (Int.ofNat v6.touches.length + Int.ofNat (List.length z2.1.2.2.1)) then some (Sum.inr (Sum.inr ((false, ()), ()))) else bif Int.ofNat z1.1.1.threads.length != Int.ofNat v6.threads.length then some (Sum.inr (Sum.inr ((false, ()), ()))) else bif decide (z1.1.1.threads.length ≤ 1000000000) then bif decide (rdE EK.int v2 v4 < 0) then some (Sum.inr (Sum.inr ((false, ()), ()))) else bif decide (rdE EK.int v2 v4 ≥ Int.ofNat z1.1.1.threads.length) then some (Sum.inr (Sum.inr ((false, ()), ()))) else bif decide (Int.ofNat z1.1.1.events.length < Int.ofNat v6.events.length) then some (Sum.inr (Sum.inr ((false, ()), ()))) else bif decide (Int.ofNat z1.1.1.events.length > w64 (Int.ofNat v6.events.length + 2)) then some (Sum.inr (Sum.inr ((false, ()), ()))) else bif decide (0 ≤ Int.ofNat v6.events.length) && decide (Int.ofNat v6.events.length ≤ Int.ofNat z1.1.1.events.length) then (p4 ((List.take (Int.ofNat v6.events.length).toNat z1.1.1.events, v6.events, ()), ())).bind fun z => bif !z.1.1 then some (Sum.inr (Sum.inr ((false, ()), ()))) else bif inR (rdE EK.int v2 v4) v6.threads.length then bif inR (rdE EK.int v2 v4) z1.1.1.threads.length then (p5 ((Wld.mk v6.shared (wrE (EK.st SN.thr) z1.1.1.threads (rdE EK.int v2 v4) (rdE (EK.st SN.thr) v6.threads (rdE EK.int v2 v4))) v6.events v6.touches, v6, ()), ())).bind fun z => bif !z.1.1 then some (Sum.inr (Sum.inr ((false, ()), ()))) else some (Sum.inl (((), (), v2, v3, w64 (v4 + 1), ()), (v5, ()), (Wld.mk z2.1.1 z1.1.1.threads z1.1.1.events z1.1.1.touches, ()), ())) else none else none else none else none else none else some (Sum.inr (Sum.inl ((), ())))
noncomputable def lApartL0N : lApartL0E.T := lApartL0E.lp (lApartL0E.un (gN askDoN trnAskN trnStpN rSameSN rSameEvN rSameWN))
theorem aIq (p0 : askDoE.T) (p1 : trnAskE.T) (p2 : trnStpE.T) (p3 : rSameSE.T) (p4 : rSameEvE.T) (p5 : rSameWE.T) (x) : lApartL0E.run [askDoE.on p0, trnAskE.on p1, trnStpE.on p2, rSameSE.on p3, rSameEvE.on p4, rSameWE.on p5] [] [] x = lApartL0E.un (gN p0 p1 p2 p3 p4 p5) x := by kernel_rfl
theorem aOh : lApartL0E.Ok lApartL0N := Le.k (fo f1 f1) (askDo_ok.k (trnAsk_ok.k (trnStp_ok.k (rSameS_ok.k (rSameEv_ok.k (rSameW_ok.k g0)))))) (aA (by kernel_rfl)) (aIq askDoN trnAskN trnStpN rSameSN rSameEvN rSameWN)
noncomputable abbrev lApartE : Fe := ⟨5, Tryz.f5, [.s (.e (.st .cfg)), .s (.e (.sl (.sl (.st .opn)))), .s (.e (.sl .int))], [], [vb], []⟩
noncomputable def aBg (p0 : askDoE.T) (p1 : trnAskE.T) (p2 : trnStpE.T) (p3 : trnNewE.T) (p4 : rSameSE.T) (p5 : rSameEvE.T) (p6 : rSameWE.T) (p7 : l19livE.T) (p8 : l19mayE.T) (p9 : lApartL0E.T) (c : Cfg) (ops : List (List Opn)) (picks : List Int) : Option lApartE.Y := (p7 ((), ())).bind fun z => bif !z.1.1 then some ((false, ()), ()) else (p8 ((c, ops, picks, 8, ()), ())).bind fun z => bif !z.1.1 then some ((true, ()), ()) else (p3 ((c, ops, ()), ())).bind fun z => bif z.1.2.1 != 0 then some ((true, ()), ()) else (p9 (((), (), picks, Int.ofNat picks.length, 0, ()), (c, ()), (z.1.1, ()), ())).bind fun z => aH z (fun z => some ((true, ()), ())) fun z => some ((z.1.1, ()), ())
noncomputable def lApartN : lApartE.T := lApartE.un (aBg askDoN trnAskN trnStpN trnNewN rSameSN rSameEvN rSameWN l19livN l19mayN lApartL0N)
theorem aUe (p0 : askDoE.T) (p1 : trnAskE.T) (p2 : trnStpE.T) (p3 : trnNewE.T) (p4 : rSameSE.T) (p5 : rSameEvE.T) (p6 : rSameWE.T) (p7 : l19livE.T) (p8 : l19mayE.T) (p9 : lApartL0E.T) (x) : lApartE.run [askDoE.on p0, trnAskE.on p1, trnStpE.on p2, trnNewE.on p3, rSameSE.on p4, rSameEvE.on p5, rSameWE.on p6, l19livE.on p7, l19mayE.on p8] [(9, lApartL0E.on p9)] [] x = lApartE.un (aBg p0 p1 p2 p3 p4 p5 p6 p7 p8 p9) x := by kernel_rfl
theorem lApart_ok : lApartE.Ok lApartN := Fe.k (by kernel_rfl) (askDo_ok.k (trnAsk_ok.k (trnStp_ok.k (trnNew_ok.k (rSameS_ok.k (rSameEv_ok.k (rSameW_ok.k (l19liv_ok.k (l19may_ok.k g0))))))))) (bD (by kernel_rfl) (lsc (by kernel_rfl) aOh rfl lsn)) (aUe askDoN trnAskN trnStpN trnNewN rSameSN rSameEvN rSameWN l19livN l19mayN lApartL0N)
theorem bHf : ∀ (ops : List (List Opn)), (List.flatten ops).length = sumL ops := fun ops => by
 induction ops with
 | nil => rfl
 | cons l ops ih =>
  have e : ∀ (m : List Nat) (a : Nat), m.foldl (· + ·) a = a + m.foldl (· + ·) 0 := fun m => by
   induction m with
   | nil => intro a; simp
   | cons x m ih => intro a; rw [List.foldl_cons, List.foldl_cons, ih, ih (0 + x)]; omega
  rw [List.flatten_cons, List.length_append, ih]
  unfold sumL
  rw [List.map_cons, List.foldl_cons, e _ (0 + l.length)]
  omega
theorem bJu {c : Cfg} {ops : List (List Opn)} {picks : List Int} {most : Int} (h2 : ∀ l ∈ ops, l.length ≤ 100000000000000000) (h : fewW c ops picks most = true) : c.nodes ≤ 8 ∧ c.edges ≤ 8 ∧ c.props ≤ 8 ∧ c.ids ≤ 10 ∧ c.edgeIds ≤ 10 ∧ ops.length ≤ 4 ∧ (sumL ops : Int) ≤ most ∧ picks.length ≤ 600 := by
 unfold fewW at h
 simp only [Bool.and_eq_true, decide_eq_true_eq, Int.ofNat_eq_natCast] at h
 rw [bJi (by omega) h2] at h
 omega
theorem bBp {c : Cfg} {ops : List (List Opn)} {picks : List Int} {most : Int} (h1 : ops.length ≤ 100000000000000000) (h2 : ∀ l ∈ ops, l.length ≤ 100000000000000000) : l19mayN ((c, ops, picks, most, ()), ()) = some ((cM c && fewW c ops picks most, ()), ()) := by
 show aBf rFewWN rCfgN c ops picks most = _
 unfold aBf
 rw [bJh, bMh c picks most h1]
 cases cM c <;> rfl
theorem bJv {e : EK} {xs : List e.T} {t : Int} (y : e.T) (h : inR t xs.length = true) : wrE e (wrE e xs t y) t (rdE e xs t) = xs := by
 obtain ⟨h1, h2⟩ := kB.1 h
 have hl : t.toNat < xs.length := by omega
 rw [aWf]
 simp only [wrE, wr, rdE, rd, List.getD_eq_getElem?_getD, List.getElem?_eq_getElem hl, Option.getD_some]
 exact List.set_getElem_self hl
theorem aOi {n : Nat} {c : Cfg} {w : Wld} (hw : WOk n c w) (hn : n ≤ 40000) (l : List Int) {i : Nat} (hi : i < l.length) (hl : l.length ≤ 1000) :
  gN askDoN trnAskN trnStpN rSameSN rSameEvN rSameWN l (Int.ofNat l.length) (i : Int) c w = some (.inl (((), (), l, Int.ofNat l.length, ((i + 1 : Nat) : Int), ()), (c, ()), ((step c w l[i]).1, ()), ())) := by
 unfold gN
 rw [decide_eq_true (by simp; omega), aU hi, cV (e := EK.int) l i hi, gH hi (by omega)]
 simp only [cond_true]
 generalize l[i] = t
 rw [aWi hw (by omega), bJg hw (by omega)]
 simp only [Option.bind_some]
 unfold step
 split
 ·rename_i h
  simp only [Bool.not_false, cond_true]
  rw [bKw hw (by omega)]
  rfl
 ·rename_i h
  simp only [not_or, Bool.not_eq_false, Bool.not_eq_true, ne_eq, Decidable.not_not] at h
  obtain ⟨h1, h2, h3⟩ := h
  have hstep := aWj hw (by omega) t
  have hlive := wU h1
  obtain ⟨l1, l2⟩ := hlive
  unfold step at hstep
  rw [if_neg (by simp [h1, h2, h3])] at hstep
  simp only [Bool.not_true, cond_false]
  rw [aKo c hw.sh.s]
  simp only [Option.bind_some]
  generalize hd : kQ c w.shared t (kW c w t).1 = d at *
  obtain ⟨s, m, tl, e⟩ := d
  simp only at h3
  subst h3
  obtain ⟨q1, q2, q3, q4⟩ := aHy hd
  have hll := aHz w.shared t (kW c w t).1
  rw [← q4] at hll
  simp only at hstep ⊢
  have htl := hw.tl
  have hev := hw.ev
  have hto := hw.to
  have e1 : (nW c w t s m tl).shared = s := by unfold nW; cases (nxt c (mQ (thr w.threads t)) (qJ (thr w.threads t) ++ [m])).2.2 <;> rfl
  have e2 : (nW c w t s m tl).touches = w.touches ++ tl := by unfold nW; cases (nxt c (mQ (thr w.threads t)) (qJ (thr w.threads t) ++ [m])).2.2 <;> rfl
  have e3 : ∃ y, (nW c w t s m tl).threads = wrE (EK.st SN.thr) w.threads t y := by unfold nW; cases (nxt c (mQ (thr w.threads t)) (qJ (thr w.threads t) ++ [m])).2.2 <;> exact ⟨_, rfl⟩
  have e4 : ∃ x, (nW c w t s m tl).events = w.events ++ x ∧ x.length ≤ 2 := by
   unfold nW
   cases (nxt c (mQ (thr w.threads t)) (qJ (thr w.threads t) ++ [m])).2.2 <;> cases (thr w.threads t).busy
   ·exact ⟨_, rfl, by simp⟩
   ·exact ⟨[], by simp, by simp⟩
   ·simp only [cond_true, cond_false, List.append_assoc]
    exact ⟨_, rfl, by simp⟩
   ·exact ⟨_, rfl, by simp⟩
  obtain ⟨y, e3⟩ := e3
  obtain ⟨x, e4, e5⟩ := e4
  have e3l : (nW c w t s m tl).threads.length = w.threads.length := by rw [e3, aDj]
  rw [h1, e1, bKv (show ShS s from e1 ▸ hstep.sh.s), e2, e3l]
  have et := kB.1 l1
  rw [bF (n := Int.ofNat w.touches.length + Int.ofNat tl.length) (by simp; omega) (by simp; omega), bF (n := Int.ofNat w.events.length + 2) (by simp; omega) (by simp; omega)]
  have c1 : (Int.ofNat (w.touches ++ tl).length != Int.ofNat w.touches.length + Int.ofNat tl.length) = false := by simp
  simp only [Bool.not_true, cond_false, bne_self_eq_false, Option.bind_some, c1]
  rw [decide_eq_true (show w.threads.length ≤ 1000000000 by omega), decide_eq_false (show ¬ t < 0 by omega), decide_eq_false (show ¬ t ≥ Int.ofNat w.threads.length by simp; omega), e4, decide_eq_false (show ¬ Int.ofNat (w.events ++ x).length < Int.ofNat w.events.length by simp; omega), decide_eq_false (show ¬ Int.ofNat (w.events ++ x).length > Int.ofNat w.events.length + 2 by simp; omega),
   show (decide (0 ≤ Int.ofNat w.events.length) && decide (Int.ofNat w.events.length ≤ Int.ofNat (w.events ++ x).length)) = true by simp; omega]
  simp only [cond_true, cond_false]
  have e6 : List.take (Int.ofNat w.events.length).toNat (w.events ++ x) = w.events := by simp
  rw [e6, bGu (by omega) hw.er, l1, e3, bJv y l1]
  simp only [Option.bind_some, Bool.not_true, cond_false, cond_true]
  rw [show (Wld.mk w.shared w.threads w.events w.touches) = w from rfl, bKw hw (by omega)]
  simp only [Option.bind_some, Bool.not_true, cond_false]
  congr 6
  cases hz : nW c w t s m tl with
  | mk a1 a2 a3 a4 =>
   rw [hz] at e1 e2 e3 e4
   simp only at e1 e2 e3 e4
   rw [e1, e2, e3, e4]
theorem aEb {c : Cfg} {ops : List (List Opn)} {picks : List Int} (ho : ∀ l ∈ ops, ∀ o ∈ l, Op64 o) (h1 : ops.length ≤ 100000000000000000) (h2 : ∀ l ∈ ops, l.length ≤ 100000000000000000) : lApartN ((c, ops, picks, ()), ()) = some ((true, ()), ()) := by
 show aBg askDoN trnAskN trnStpN trnNewN rSameSN rSameEvN rSameWN l19livN l19mayN lApartL0N c ops picks = _
 unfold aBg
 rw [show l19livN ((), ()) = some ((true, ()), ()) from rfl, bBp h1 h2]
 simp only [Option.bind_some, Bool.not_true, cond_false]
 cases hm : (cM c && fewW c ops picks 8) with
 | false => rfl
 | true =>
 simp only [Bool.and_eq_true] at hm
 obtain ⟨f1, f2, f3, f4, f5, f6, f7, f8⟩ := bJu h2 hm.2
 have hfl : (List.flatten ops).length ≤ 1000000000 := by rw [bHf]; omega
 simp only [Bool.not_true, cond_false]
 rw [bBo c hfl (by omega)]
 simp only [Option.bind_some]
 cases hn : newB c ops with
 | false => rfl
 | true =>
  simp only [cond_true, bne_self_eq_false, cond_false]
  have hw0 := bJt hn ho
  have hL : lApartL0N (((), (), picks, Int.ofNat picks.length, 0, ()), (c, ()), (newW c ops, ()), ()) = some (.inl ((), ())) := by
   have := vY (B := lApartL0E.un (gN askDoN trnAskN trnStpN rSameSN rSameEvN rSameWN)) (fun i => (((), (), picks, Int.ofNat picks.length, (i : Int), ()), (c, ()), (plyW c (newW c ops) (picks.take i), ()), ())) (k := picks.length) (y := .inl ((), ())) (by omega) (fun i hi =>?_) ?_
   ·exact this
   ·show gN askDoN trnAskN trnStpN rSameSN rSameEvN rSameWN picks (Int.ofNat picks.length) (i : Int) c (plyW c (newW c ops) (picks.take i)) = _
    have hwi := aWm (l := picks.take i) hw0 (by simp; omega)
    rw [aOi hwi (by simp; omega) picks hi (by omega), List.take_succ_eq_append_getElem hi, bHe]
    rfl
   ·show gN askDoN trnAskN trnStpN rSameSN rSameEvN rSameWN picks (Int.ofNat picks.length) (picks.length : Int) c (plyW c (newW c ops) (picks.take picks.length)) = _
    unfold gN
    rw [decide_eq_false (by simp)]
    rfl
  rw [hL]
  rfl
end Go.Ax.Cd
