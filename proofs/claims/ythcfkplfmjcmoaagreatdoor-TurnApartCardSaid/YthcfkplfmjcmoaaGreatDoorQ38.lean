/- Merged. -/
import Derived.Test.YthcfkplfmjcmoaaGreatDoorQ21
import Derived.Test.YthcfkplfmjcmoaaGreatDoorQ36
import Derived.Test.YthcfkplfmjcmoaaGreatDoorQ37
import Derived.Shelf.RegionOpen
import Derived.Sort.QuietIn
import Derived.Test.YthcfkplfmjcmoaaGreatDoorQ34
namespace Go.Ax.Cd
open Go.Proofs Go.RowKit
attribute [local go_sem] Oper.semAt_some
set_option linter.unusedVariables false
set_option linter.unusedSimpArgs false
set_option maxRecDepth 100000
theorem bJk (ats : Array TypeId) (ty : TypeId) (a b : Value) : Builtin.min_ ats ty #[a, b] = (Builtin.min2 a b >>= fun s => pure s) := by simp only [Builtin.min_, List.foldlM_cons, List.foldlM_nil]
theorem bHa (k k' : IntKind) (x y : Int) : Builtin.min2 (.int k x) (.int k' y) = pure (.int k (if y < x then y else x)) := by simp only [Builtin.min2]
attribute [local go_sem] bJk bHa
set_option maxHeartbeats 4000000 in
theorem bBg (n : Nat) (hn : 1 ≤ n) (l Bs Bk : Nat) (A : Option Addr) (L c nn m : Nat) (ev : Nat → Nat) (cv : Nat → Value)
  (hLc : L ≤ c) (hnn : 1 ≤ nn)
  (hlo : ∀ k, k < m → k * nn < L ∧ k * nn + nn ≤ 9223372036854775807 ∧ ((k * nn + nn ≤ L ∧ ev k = nn) ∨ (L < k * nn + nn ∧ k * nn + ev k = L))) (hhi : L ≤ m * nn)
  (hcut : ∀ k, k < m → ∀ W : World, (Instr.slice 24 (.slice A L c) (some (.int .i64 ((k * nn : Nat) : Int))) (some (.int .i64 (((k * nn : Nat) : Int) + (ev k : Int)))) (some (.int .i64 (((k * nn : Nat) : Int) + (ev k : Int))))).run Tryz.prog W = .ok (cv k) W)
  (J Jx : List Nat → World → Prop)
  (hJ : ∀ s W q, J s W → J s (W.drewN q))
  (hY : ∀ pre x W, J pre W → pre.length < m → YieldAt Fence.wide (n - 1) Tryz.prog l #[cv x] W fun e W' =>
   (e = .returned (.bool true) ∧ J (pre ++ [x]) W' ∧ W'.cell? ⟨Bs, 0, none⟩ = some (.slice A L c) ∧ W'.cell? ⟨Bk, 0, none⟩ = some (.int .i64 nn)) ∨ (e = .returned (.bool false) ∧ Jx (pre ++ [x]) W'))
  (W : World) (hBs : W.cell? ⟨Bs, 0, none⟩ = some (.slice A L c)) (hBk : W.cell? ⟨Bk, 0, none⟩ = some (.int .i64 nn)) (h0 : J [] W) :
  CallsIn Fence.wide n Tryz.prog 170 #[.func (.yield l) #[] #[], .pointer (some ⟨Bs, 0, none⟩), .pointer (some ⟨Bk, 0, none⟩)] W fun e W' => (∃ v, e = .returned v) ∧
   ((∃ ys, ys = List.range m ∧ J ys W') ∨ (∃ pre, (∃ k, k ≤ m ∧ pre = List.range k) ∧ Jx pre W')) := by
 refine callsIn_of_wp Tryz.func170 rfl trivial ?_ rfl
 simp only [Tryz.ntmps170, List.size_toArray, List.length_cons, List.length_nil, Nat.reduceAdd, Nat.reduceSub, Array.replicate_succ, Array.replicate_zero, List.push_toArray, List.append_toArray, List.nil_append, List.cons_append]
 have HHI := Aside0.mk hhi
 clear hhi
 have HLO := Aside0.mk hlo
 clear hlo
 have HCUT := Aside0.mk hcut
 clear hcut
 gi_wp2
 gi_loopw [4] (fun i wr => ∃ k i' : Nat, k ≤ m ∧ Aside0 (i' = k * nn) ∧ i = .int .i64 i' ∧ J (List.range k) wr ∧ wr.cell? ⟨Bs, 0, none⟩ = some (.slice A L c) ∧ wr.cell? ⟨Bk, 0, none⟩ = some (.int .i64 nn))
  (fun i _ => L - (Go.RowKit.intOf i).toNat)
 case atStart => exact ⟨0, 0, Nat.zero_le _, Aside0.mk (by omega), rfl, h0, hBs, hBk⟩
 case round =>
  obtain ⟨k, i', hk, HI, rfl, hJs, hs, hkk⟩ := hrel
  by_cases hkm : k < m
  ·obtain ⟨q1, q2, q3⟩ := HLO.out k hkm
   have hcv := HCUT.out k hkm
   rw [← HI.out] at q1 q2 q3 hcv
   generalize hee : ev k = ee at q3 hcv
   clear hee
   have fin : ∀ (W3 : World) (i2 : Nat), J (List.range k ++ [k]) W3 → i2 = i' + nn → Aside0 (i2 = (k + 1) * nn) ∧ J (List.range (k + 1)) W3 := by
    intro W3 i2 hj e
    refine ⟨⟨?_⟩, by rw [List.range_succ]; exact hj⟩
    rw [e, HI.out, Nat.succ_mul]
   rcases q3 with ⟨q3, q4⟩ | ⟨q3, q4⟩
   ·obtain rfl : ee = nn := q4
    have q5 : ¬ ((L : Int) - (i' : Int) < (ee : Int)) := by omega
    gi_wp2
    gi_quiet (fail)
    obtain ⟨fn, tmps, assign, body, hy, hR⟩ := hY _ k (wr.drewN nq) (hJ _ _ _ hJs) (by rw [List.length_range]; exact hkm)
    gi_wp2
    refine hR.mono ?_
    rintro e W3 (⟨rfl, hJ3, hs3, hk3⟩ | ⟨rfl, hJx3⟩)
    ·gi_wp2
     go_roundw
     case rel => exact ⟨k + 1, i' + ee, hkm, (fin _ _ hJ3 rfl).1, by simp, (fin _ _ hJ3 rfl).2, hs3, hk3⟩
     case measure => simp [Go.RowKit.intOf]; omega
    ·gi_wp2
     refine bodyPost_ret (results_none rfl _ _ _) rfl ?_
     exact ⟨⟨_, rfl⟩, .inr ⟨_, ⟨k + 1, hkm, (List.range_succ).symm⟩, hJx3⟩⟩
   ·have q6 : (L : Int) - (i' : Int) = (ee : Int) := by omega
    have q5 : (L : Int) - (i' : Int) < (nn : Int) := by omega
    have q7 : L - i' = ee := by omega
    gi_wp2
    gi_quiet (fail)
    obtain ⟨fn, tmps, assign, body, hy, hR⟩ := hY _ k (wr.drewN nq) (hJ _ _ _ hJs) (by rw [List.length_range]; exact hkm)
    gi_wp2
    refine hR.mono ?_
    rintro e W3 (⟨rfl, hJ3, hs3, hk3⟩ | ⟨rfl, hJx3⟩)
    ·gi_wp2
     go_roundw
     case rel => exact ⟨k + 1, i' + nn, hkm, (fin _ _ hJ3 rfl).1, by simp, (fin _ _ hJ3 rfl).2, hs3, hk3⟩
     case measure => simp [Go.RowKit.intOf]; omega
    ·gi_wp2
     refine bodyPost_ret (results_none rfl _ _ _) rfl ?_
     exact ⟨⟨_, rfl⟩, .inr ⟨_, ⟨k + 1, hkm, (List.range_succ).symm⟩, hJx3⟩⟩
  ·obtain rfl : k = m := by omega
   have q1 : L ≤ i' := by rw [HI.out]; exact HHI.out
   gi_wp2
   go_end0
   exact ⟨⟨_, rfl⟩, .inl ⟨_, rfl, hJs⟩⟩



set_option linter.unusedVariables false
set_option linter.unusedSimpArgs false
set_option maxRecDepth 100000
noncomputable abbrev chkF : Func := Tryz.f102
abbrev chkCon : Con := Con.of [.s (.e (.sl .int)), vi] [] [.clo 170 [.ptr 0 0, .ptr 1 0]] [.box [.e (.sl .int)], .box [.e .int]] (fun x => bif decide (x.1.2.1 < 1) then none else some ((((), (), ()), ()), ((x.1.1, ()), (x.1.2.1, ()), ())))
theorem bMj : aK Tryz.prog gl 102 chkCon := by
  refine aOw (fn := chkF) (c := body chkF) (res := chkF.results.toList) (Lc := []) (nh := []) (kd := kd) hm GOk.nil bI (by kernel_rfl) (by kernel_rfl) (by simp) (aA (by kernel_rfl)) ?_
  rintro ⟨⟨l, n, _⟩, _⟩
  kernel_rfl
noncomputable abbrev loF : Func := Tryz.f69
noncomputable abbrev loG : List (Nat × Con) := [(102, chkCon)]
theorem aTy : GOk Tryz.prog gl loG := GOk.cons ⟨chkF, body chkF, by kernel_rfl, by kernel_rfl, by kernel_rfl⟩ bMj GOk.nil
noncomputable abbrev lR0 : Code := sa (body loF)
noncomputable abbrev lR1 : Code := sa (sb (body loF))
noncomputable abbrev lR2 : Code := sa (sa (sb (sb (body loF))))
noncomputable abbrev lB : Code := sb (sa (sb (sb (body loF))))
noncomputable abbrev lR4 : Code := sb (sb (sb (body loF)))
theorem b69 : body loF = .seq lR0 (.seq lR1 (.seq (.seq lR2 lB) lR4)) := by kernel_rfl
noncomputable abbrev lA : Code := rgA (bkc lB)
noncomputable abbrev lC : Code := rgB (bkc lB)
theorem leB : lB = .block 0 (.rangeFunc (.tmp 8) #[9] lA lC) := by kernel_rfl
abbrev lvs : List Vh := [.s (.ptr 0 0), .clo 170 [.ptr 1 0, .ptr 2 0]]
abbrev los : List OSh := [.box [.own 3], .box [.e (.sl .int)], .box [.e .int], .arr (.st .opn)]
noncomputable def lK (e : AEx) (s : St) : Option (VhL lvs × OShL los) := match e with
  | .normal => if s.tm.length = loF.ntmps then dP 0 lvs los (nE [3, 8] s) s else none
  | _ => none
noncomputable abbrev lNh : List (Nat × List NilH) := [(1, [(3, some 0, .st .opn)])]
abbrev lX (l : List Int) (xs : List Opn) : VhL lvs × OShL los := (((), ((), (), ()), ()), (((), ()), (l, ()), (5, ()), xs, ()))
theorem bNl (l : List Int) : exec Tryz.prog gl kd loG 0 plan [] lNh (.seq lR0 (.seq lR1 lR2)) (bX loF.ntmps [.s (.e (.sl .int))] [] ((l, ()), ())) lK = some (lX l []) := by kernel_rfl
abbrev lH (l : List Int) (xs : List Opn) : List AObj := OShL.enc los (lX l xs).2
abbrev los2 : List OSh := [.box [.own 1], .arr (.st .opn)]
abbrev lH2 (xs : List Opn) : List AObj := OShL.enc los2 (((), ()), xs, ())
noncomputable abbrev lS (hp : List AObj) : St := { tm := Go.Ax.setT loF.ntmps [(3, .ptr 0 0)], hp := hp }
noncomputable def lK4 (e : AEx) (s : St) : Option (VhL [.s (.e (.sl (.st .opn)))] × OShL [.any, .any]) := match e with
  | .ret => (oE Tryz.prog s loF.results.toList).bind fun vals => dP 2 [.s (.e (.sl (.st .opn)))] [.any, .any] vals s
  | _ => none
theorem bNm (xs : List Opn) : exec Tryz.prog gl kd [] 2 plan [] [] lR4 (lS (lH2 xs)) lK4 = some ((xs, ()), ((), (), ())) := by kernel_rfl
theorem bMk (xs : List Opn) : dP 0 [.s (.e (.sl (.st .opn)))] [] [.sl (.st .opn) xs] { tm := [], hp := OShL.enc [.any, .any] ((), (), ()) } = some ((xs, ()), ()) := by kernel_rfl
noncomputable abbrev lS2 (win : List Int) (hp : List AObj) : St := { tm := Go.Ax.setT loF.ntmps [(3, .ptr 0 0), (4, .sl .int win)], hp := hp }
noncomputable def lK2 (e : AEx) (s : St) : Option (VhL [] × OShL los2) := match e with
  | .normal => dP 2 [] los2 [] s
  | _ => none
noncomputable def loB (p0 : linOpE.T) (win : List Int) (xs : List Opn) : Option (VhL [] × OShL los2) := (p0 ((win, ()), ())).bind fun z => bif z.1.2.1 then bif decide (xs.length + [z.1.1].length ≤ 1000000000) then some ((), ((), ()), xs ++ [z.1.1], ()) else none else some ((), ((), ()), xs, ())
theorem bMl (p0 : linOpE.T) (win : List Int) (xs : List Opn) : exec Tryz.prog gl kd [linOpE.on p0] 2 plan [] [] lC (lS2 win (lH2 xs)) lK2 = loB p0 win xs := by kernel_rfl
theorem bJl : yD lC = true := by kernel_rfl
theorem leA : lA = .region 3 #[{ dst := some 4, op := Op.assign (Operand.tmp 9), type := 24, pos := "line.go:43", after := #[], guard := none }] false := by kernel_rfl

theorem bNn : ∀ {l : List Value}, l.length = 21 → ∃ u0 u1 u2 u3 u4 u5 u6 u7 u8 u9 u10 u11 u12 u13 u14 u15 u16 u17 u18 u19 u20, l = [u0, u1, u2, u3, u4, u5, u6, u7, u8, u9, u10, u11, u12, u13, u14, u15, u16, u17, u18, u19, u20]
  | [u0, u1, u2, u3, u4, u5, u6, u7, u8, u9, u10, u11, u12, u13, u14, u15, u16, u17, u18, u19, u20], _ => ⟨_, _, _, _, _, _, _, _, _, _, _, _, _, _, _, _, _, _, _, _, _, rfl⟩
def mT (l : List Int) (j : Nat) : List Int := (l.drop (j * 5)).take 5
def winV (A : Option Addr) (l : List Int) (j : Nat) : Value := .slice (A.map (fun x => x.add (j * 5))) (mT l j).length (mT l j).length
theorem aDk (l : List Int) (j : Nat) : (mT l j).length = min 5 (l.length - j * 5) := by simp [mT]
theorem bMm {w : World} {F : Nat → Prop} {l : List Int} {A : Option Addr} {c : Nat} (h : Rd w F (.sl .int) l [.slice A l.length c]) (j : Nat) : Rd w F (.sl .int) (mT l j) [winV A l j] := by
  unfold winV
  generalize hv : Value.slice A l.length c = v at h
  cases h with
  | nil =>
    cases hv
    have : mT [] j = [] := by simp [mT]
    rw [this]
    exact .nil _ _
  | sl e xs b o cap rows hF hc hr hz hw =>
    cases hv
    have hl := aDk l j
    have hg : ∀ i, i < (mT l j).length → j * 5 + i < l.length := fun i hi => by omega
    have he : (some (⟨b, o, none⟩ : Addr)).map (fun x => x.add (j * 5)) = some ⟨b, o + j * 5, none⟩ := by
      rw [Option.map_some, Addr.add_lit]
    rw [he]
    refine .sl .int (mT l j) b (o + j * 5) _ (fun i => rows (j * 5 + i)) hF (Nat.le_refl _) (fun i hi =>?_) (fun i hi => hz _ (hg i hi)) (fun i k v hi hk =>?_)
    · have := hr (j * 5 + i) (hg i hi)
      have e : (mT l j)[i] = l[j * 5 + i]'(hg i hi) := by simp [mT]
      rw [e]
      exact this
    · have := hw (j * 5 + i) k v (hg i hi) hk
      simp only [EK.sz, Nat.mul_one] at this ⊢
      rw [← this]
      congr 2
      omega
def pG (l : List Int) (pre : List Nat) : List Opn := pre.flatMap fun j => (kU (mT l j)).toList
theorem bHb (l : List Int) (pre : List Nat) (x : Nat) : pG l (pre ++ [x]) = pG l pre ++ (kU (mT l x)).toList := by simp [pG]
theorem aOa (l : List Int) : ∀ pre : List Nat, (pG l pre).length ≤ pre.length
  | [] => Nat.le_refl _
  | x :: pre => by
    have := aOa l pre
    have h2 : (kU (mT l x)).toList.length ≤ 1 := by cases kU (mT l x) <;> simp
    have h3 : pG l (x :: pre) = (kU (mT l x)).toList ++ pG l pre := by simp [pG]
    rw [h3, List.length_append, List.length_cons]
    omega
theorem bJm (l : List Int) : ∃ o b, linOpN ((l, ()), ()) = some ((o, b, ()), ()) ∧ (b = true → kU l = some o) ∧ (b = false → kU l = none) := by
  show ∃ o b, aIl linPlnN l = _ ∧ _
  unfold aIl
  by_cases h : l.length = 5
  · match l, h with
    | [k, a, b, x, v], _ =>
      have e : (Int.ofNat [k, a, b, x, v].length != 5) = false := rfl
      have i0 : inR 0 [k, a, b, x, v].length = true := rfl
      have i1 : inR 1 [k, a, b, x, v].length = true := rfl
      have i2 : inR 2 [k, a, b, x, v].length = true := rfl
      have i3 : inR 3 [k, a, b, x, v].length = true := rfl
      have i4 : inR 4 [k, a, b, x, v].length = true := rfl
      rw [e, i0, i1, i2, i3, i4]
      simp only [cond_false, cond_true]
      show ∃ o b_1, ((rB ⟨k, a, b, x, v⟩).bind _) = _ ∧ _
      unfold rB kU
      dsimp only
      by_cases k1 : k = 1
      · subst k1; exact ⟨_, _, rfl, fun _ => rfl, fun h => nomatch h⟩
      by_cases k2 : k = 2
      · subst k2; exact ⟨_, _, rfl, fun _ => rfl, fun h => nomatch h⟩
      by_cases k9 : k = 9
      · subst k9; exact ⟨_, _, rfl, fun _ => rfl, fun h => nomatch h⟩
      by_cases k4 : k = 4
      · subst k4; exact ⟨_, _, rfl, fun _ => rfl, fun h => nomatch h⟩
      by_cases k5 : k = 5
      · subst k5; exact ⟨_, _, rfl, fun _ => rfl, fun h => nomatch h⟩
      by_cases k3 : k = 3
      · subst k3; exact ⟨_, _, rfl, fun _ => rfl, fun h => nomatch h⟩
      by_cases k6 : k = 6
      · subst k6; exact ⟨_, _, rfl, fun _ => rfl, fun h => nomatch h⟩
      by_cases k7 : k = 7
      · subst k7; exact ⟨_, _, rfl, fun _ => rfl, fun h => nomatch h⟩
      by_cases k8 : k = 8
      · subst k8; exact ⟨_, _, rfl, fun _ => rfl, fun h => nomatch h⟩
      have q : ∀ n : Int, k ≠ n → (k == n) = false := fun n hn => by simpa using hn
      rw [q 1 k1, q 2 k2, q 9 k9, q 4 k4, q 5 k5, q 3 k3, q 6 k6, q 7 k7, q 8 k8]
      refine ⟨_, _, rfl, (fun h => nomatch h), fun _ =>?_⟩
      rw [if_neg k1, if_neg (by rintro (h | h) <;> contradiction), if_neg k4, if_neg k5, if_neg (by rintro (h | h | h | h) <;> contradiction)]
  · have e : (Int.ofNat l.length != 5) = true := by simp; omega
    rw [e]
    refine ⟨_, _, rfl, (fun h => nomatch h), fun _ =>?_⟩
    unfold kU
    split
    · exact absurd rfl h
    · rfl
theorem bMn (l : List Int) (xs : List Opn) (h : xs.length < 1000000000) : loB linOpN l xs = some ((), ((), ()), xs ++ (kU l).toList, ()) := by
  obtain ⟨o, b, h1, h2, h3⟩ := bJm l
  unfold loB
  rw [h1, Option.bind_some]
  dsimp only
  cases b with
  | true =>
    rw [h2 rfl, cond_true, decide_eq_true (by simp; omega), cond_true]
    rfl
  | false =>
    rw [h3 rfl, cond_false]
    simp
theorem aOb (l : List Int) : ∀ (m n k : Nat), l.length ≤ (k + m) * 5 → m ≤ n → kV n (l.drop (k * 5)) = pG l (List.range' k m)
  | 0, n, k, h, _ => by
    have : l.drop (k * 5) = [] := List.drop_of_length_le (by omega)
    rw [this]
    show kV n [] = []
    induction n with
    | zero => rfl
    | succ n ih => show (kU ([] : List Int)).toList ++ kV n [] = []; rw [ih (by omega)]; rfl
  | m + 1, 0, k, _, h => by omega
  | m + 1, n + 1, k, h, h2 => by
    have := aOb l m n (k + 1) (by omega) (by omega)
    rw [List.range'_succ]
    show (kU ((l.drop (k * 5)).take 5)).toList ++ kV n ((l.drop (k * 5)).drop 5) = (kU (mT l k)).toList ++ pG l (List.range' (k + 1) m)
    rw [← this, List.drop_drop, show k * 5 + 5 = (k + 1) * 5 by omega]
    rfl
attribute [local go_sem] Oper.semAt_some
set_option linter.unusedVariables false
set_option linter.unusedSimpArgs false
set_option maxRecDepth 100000
structure LJ (E1 : Ent) (l : List Int) (D : Nat) (lp : Loop) (pre : List Nat) (W : World) : Prop where
 ex : ∃ ρ F, InvH gl E1 (lH2 (pG l pre)) W ρ F ∧ ∀ b, b = D ∨ b = D + 1 → ¬ Own ρ (lH2 (pG l pre)) b ∧ ¬ Bx F E1.L b
 dd : W.heap[D]? = some (.deferred (some []))
 ll : W.heap[D + 1]? = some (.loop lp)
theorem LJ.drew {E1 : Ent} {l : List Int} {D : Nat} {lp : Loop} {pre : List Nat} {W : World} (h : LJ E1 l D lp pre W) (q : Nat) : LJ E1 l D lp pre (W.drewN q) := by
 have hc : Ch W (W.drewN q) (fun _ => False) := ⟨rfl, rfl, rfl, Nat.le_refl _, fun _ _ _ => rfl⟩
 obtain ⟨⟨ρ, F, h1, h2⟩, h3, h4⟩ := h
 exact ⟨⟨ρ, F, ⟨h1.h.still hc, h1.stp.still hc, h1.pk, h1.glo.mono (fun b hb => rfl) (fun _ x => x)⟩, h2⟩, h3, h4⟩
theorem bHc {E1 : Ent} {l : List Int} {D b0 : Nat} {u : Array Value} (hu : u.size = 21) (hu3 : u.toList[3]? = some (ptB b0)) (hD : E1.w.heap.size ≤ D) (h0 : E1.ρ[0]? = some (ptB b0))
  {lp : Loop} (hlp : lp = { state := .ready, pending := none, fn := 69, tmps := u, params := #[9], assign := lA, body := lC, defers := D })
  {A : Option Addr} {c : Nat} (hl : Rd E1.w E1.F (.sl .int) l [.slice A l.length c]) (hF : ∀ b, E1.F b → b < E1.w.heap.size ∧ ¬ E1.O b)
  {pre : List Nat} {x : Nat} {W : World} (hJ : LJ E1 l D lp pre W) (hpre : pre.length < 1000000000) :
  YieldAt Fence.wide 0 Tryz.prog (D + 1) #[winV A l x] W fun e W' => e = .returned (.bool true) ∧ LJ E1 l D lp (pre ++ [x]) W' := by
 obtain ⟨⟨ρ, F, hI, hN⟩, hd, hll⟩ := hJ
 obtain ⟨ul, rfl⟩ : ∃ l : List Value, u = l.toArray := ⟨u.toList, by simp⟩
 obtain ⟨u0, u1, u2, u3, u4, u5, u6, u7, u8, u9, u10, u11, u12, u13, u14, u15, u16, u17, u18, u19, u20, rfl⟩ := bNn (by simpa using hu)
 obtain rfl : u3 = ptB b0 := by simpa using hu3
 refine ⟨lp.fn, _, lp.assign, lp.body, run_yield hll (by rw [hlp]; rfl), ?_⟩
 have e1 : lp.fn = 69 := by rw [hlp]
 have e2 : lp.assign = lA := by rw [hlp]
 have e3 : lp.body = lC := by rw [hlp]
 have e4 : lp.params = #[9] := by rw [hlp]
 have e5 : lp.tmps = #[u0, u1, u2, ptB b0, u4, u5, u6, u7, u8, u9, u10, u11, u12, u13, u14, u15, u16, u17, u18, u19, u20] := by rw [hlp]
 have e6 : lp.state = .ready := by rw [hlp]
 have e7 : lp.pending = none := by rw [hlp]
 rw [e1, e2, e3, e4, e5]
 refine nS trivial (fn := loF) (by kernel_rfl) ?_
 have hlD : D + 1 < W.heap.size := (Array.getElem?_eq_some_iff.1 hll).1
 have hdD : D < W.heap.size := (Array.getElem?_eq_some_iff.1 hd).1
 have hI2 : InvH gl E1 (lH2 (pG l pre)) (W.putObj (D + 1) (.loop { lp with state := .busy })) ρ F := gT hI (oK _ _ _) (hN _ (.inr rfl)).1 (hN _ (.inr rfl)).2 (.inl (by omega))
 have hd2 : (W.putObj (D + 1) (.loop { lp with state := .busy })).heap[D]? = some (.deferred (some [])) := (World.putObj_heap_other (by omega)).trans hd
 have hl2 : (W.putObj (D + 1) (.loop { lp with state := .busy })).heap[D + 1]? = some (.loop { lp with state := .busy }) := World.putObj_heap_same hlD
 have hs2 : (W.putObj (D + 1) (.loop { lp with state := .busy })).heap.size = W.heap.size := by simp
 have hbr := run_beginRound (P := Tryz.prog) hll e6
 generalize W.putObj (D + 1) (.loop { lp with state := .busy }) = W2 at hI2 hd2 hl2 hs2 hbr
 have hp0 := hI2.pk _ _ h0
 have hw := bMm (Rd.mono (fun b hb => hI2.stp.ch.block b (hF b hb).1 (hF b hb).2) hI2.stp.fF hl) x
 generalize winV A l x = wv at hw ⊢
 clear hlp
 let E2 : Ent := ⟨ρ, W2, Own ρ (lH2 (pG l pre)), F, E1.L, [], false⟩
 have hn2 : E2.ρ.length = 2 := hI2.h.len
 have hI3 : InvH gl E2 (lH2 (pG l pre)) W2 ρ F := ⟨hI2.h, .refl _ _ _, .refl _, hI2.glo⟩
 have hI4 : Inv gl E2 (lS2 (mT l x) (lH2 (pG l pre))) { tmps := #[u0, u1, u2, ptB b0, wv, u5, u6, u7, u8, wv, u10, u11, u12, u13, u14, u15, u16, u17, u18, u19, u20], defers := [] } W2 ρ F := by
  refine .of ⟨iF (by kernel_rfl) (fun q hq =>?_), hI3.h⟩ (.refl _ _ _) (.refl _) hI3.glo rfl
  simp only [List.mem_cons, List.not_mem_nil, or_false] at hq
  rcases hq with rfl | rfl
  ·exact ⟨b0, hp0, rfl⟩
  ·simp only [VR]
   exact hw
 have hx := aIn (r := D + 1) (kd := kd) (pl := plan) (nh := []) (linOp_ok.k g0) hn2 lC bJl hI4 ((bMl linOpN (mT l x) (pG l pre)).trans (bMn _ _ (Nat.lt_of_le_of_lt (aOa l pre) hpre)))
 rw [← bHb] at hx
 rw [leA]
 gi_wp2
 refine wpIn_mono hx (fun ex a3 W3 q =>?_)
 cases ex with
 | exit i => obtain ⟨s, ρ1, F1, h1, h2⟩ := q; cases h2
 | ret => obtain ⟨s, ρ1, F1, h1, h2⟩ := q; cases h2
 | panic c => obtain ⟨s, ρ1, F1, v, x, h1, h2, h3, h4, h5⟩ := q; cases h5
 | goto l => exact q.elim
 | outgrown => exact q.elim
 | normal =>
  obtain ⟨s, ρ1, F1, h1, h2⟩ := q
  obtain ⟨ρ3, F3, h3, _⟩ := bV hn2 h1.rep h1.toInvH (vals := []) (us := []) (by simp [VRs]) h2
  have p2 := h3.stp
  have hN3 : ∀ b, b = D ∨ b = D + 1 → ¬ Own ρ3 (lH2 (pG l (pre ++ [x]))) b ∧ ¬ Bx F3 E1.L b := fun b hb => by
   have hb2 : b < W2.heap.size := by rcases hb with rfl | rfl <;> omega
   refine ⟨fun h =>?_, fun h =>?_⟩
   ·rcases p2.oO b h with h | h
    ·exact (hN b hb).1 h
    ·exact absurd hb2 (Nat.not_lt.2 h)
   ·rcases h with h | h
    ·rcases p2.oF b h with h | h | h
     ·exact (hN b hb).2 (.inl h)
     ·exact (hN b hb).1 h
     ·exact absurd hb2 (Nat.not_lt.2 h)
    ·exact (hN b hb).2 (.inr h)
  have hd3 : W3.heap[D]? = some (.deferred (some [])) := (p2.ch.block D (show D < W2.heap.size by omega) (hN D (.inl rfl)).1).trans hd2
  have hl3 := (p2.ch.block (D + 1) (show D + 1 < W2.heap.size by omega) (hN (D + 1) (.inr rfl)).1).trans hl2
  have hsz : W2.heap.size ≤ W3.heap.size := p2.ch.size
  have q3 : InvH gl E1 (lH2 (pG l (pre ++ [x]))) W3 ρ3 F3 := ⟨h3.h, hI2.stp.trans h3.stp, hI2.pk.trans h3.pk, h3.glo⟩
  refine ⟨_, _, run_endRound (P := Tryz.prog) none hl3, rfl, ⟨ρ3, F3, gT q3 (oK _ _ _) (hN3 _ (.inr rfl)).1 (hN3 _ (.inr rfl)).2 (.inl (by omega)), hN3⟩, (World.putObj_heap_other (by omega)).trans hd3, ?_⟩
  rw [World.putObj_heap_same (by omega)]
  have : lp = { lp with state := .ready, pending := none } := by rw [← e6, ← e7]
  exact congrArg (fun x => some (Obj.loop x)) this.symm
theorem bJn {E0 : Ent} {l : List Int} {w1 : World} {ρ1 : List Value} {F1 : Nat → Prop} (hE : E0.ρ = []) (hI : InvH gl E0 (lH l []) w1 ρ1 F1) : ∃ b0 b1 b2 A c v3 cs0 ty0 , ρ1 = [ptB b0, ptB b1, ptB b2, v3] ∧ w1.heap[b1]? = some (.cells #[.slice A l.length c] cs0 (0, 0)) ∧ w1.heap[b2]? = some (.cells #[.int .i64 5] ty0 (0, 0)) ∧ Rd w1 F1 (.sl .int) l [.slice A l.length c] ∧
  l.length ≤ c ∧ InvH gl E0 (lH2 []) w1 [ptB b0, v3] F1 ∧ (∀ b, Own [ptB b0, v3] (lH2 []) b → Own ρ1 (lH l []) b ∧ b ≠ b1 ∧ b ≠ b2) := by
 have hlen := hI.h.len
 obtain ⟨v0, v1, v2, v3, rfl⟩ : ∃ v0 v1 v2 v3, ρ1 = [v0, v1, v2, v3] := by
  match ρ1, hlen with
  | [v0, v1, v2, v3], _ => exact ⟨_, _, _, _, rfl⟩
 obtain ⟨b0, cs0, ty0, rfl, h02, h03⟩ := hI.h.ob 0 (.box [.own 3]) _ rfl rfl
 obtain ⟨b1, cs1, ty1, rfl, h12, h13⟩ := hI.h.ob 1 (.box [.sl .int l]) _ rfl rfl
 obtain ⟨b2, cs2, ty2, rfl, h22, h23⟩ := hI.h.ob 2 (.box [.int 5]) _ rfl rfl
 have h3 := hI.h.ob 3 (.arr (.st .opn) []) v3 rfl rfl
 obtain ⟨x1, rfl⟩ : ∃ x, cs1 = #[x] := by
  obtain ⟨cs, rfl⟩ : ∃ l : List Value, cs1 = l.toArray := ⟨cs1.toList, by simp⟩
  match cs, h13.length with
  | [v], _ => exact ⟨v, rfl⟩
 obtain ⟨x2, rfl⟩ : ∃ x, cs2 = #[x] := by
  obtain ⟨cs, rfl⟩ : ∃ l : List Value, cs2 = l.toArray := ⟨cs2.toList, by simp⟩
  match cs, h23.length with
  | [v], _ => exact ⟨v, rfl⟩
 obtain ⟨x0, rfl⟩ : ∃ x, cs0 = #[x] := by
  obtain ⟨cs, rfl⟩ : ∃ l : List Value, cs0 = l.toArray := ⟨cs0.toList, by simp⟩
  match cs, h03.length with
  | [v], _ => exact ⟨v, rfl⟩
 simp only [VRs, VR, and_true] at h13 h23 h03
 obtain ⟨A, c, rfl, hc⟩ := h13.slice
 subst h23
 have hown : ∀ b, Own [ptB b0, v3] (lH2 []) b → Own [ptB b0, ptB b1, ptB b2, v3] (lH l []) b ∧ b ≠ b1 ∧ b ≠ b2 := by
  rintro b ⟨n, o, v, k1, k2, k3, k4⟩
  have key : ∀ (m : Nat) (o' : AObj), (lH l [])[m]? = some o' → o'.live = true → [ptB b0, ptB b1, ptB b2, v3][m]? = some v → m ≠ 1 → m ≠ 2 → Own [ptB b0, ptB b1, ptB b2, v3] (lH l []) b ∧ b ≠ b1 ∧ b ≠ b2 := by
   intro m o' q1 q2 q3 q4 q5
   refine ⟨⟨m, o', v, q1, q2, q3, k4⟩, ?_, ?_⟩
   ·rintro rfl
    exact q4 (hI.h.dist m 1 _ _ _ _ b q1 rfl q2 rfl q3 rfl k4 rfl)
   ·rintro rfl
    exact q5 (hI.h.dist m 2 _ _ _ _ b q1 rfl q2 rfl q3 rfl k4 rfl)
  match n, k1, k3 with
  | 0, k1, k3 => cases k3; exact key 0 _ rfl rfl rfl (by omega) (by omega)
  | 1, k1, k3 => cases k3; exact key 3 _ rfl rfl rfl (by omega) (by omega)
  | n + 2, k1, k3 => cases k3
 refine ⟨b0, b1, b2, A, c, v3, _, _, rfl, h12, h22, h13, hc, ⟨⟨rfl, ?_, ?_, fun b hb => ⟨(hI.h.froz b hb).1, fun h => (hI.h.froz b hb).2 (hown b h).1⟩⟩, ⟨hI.stp.ch, hI.stp.fF, fun b hb => hI.stp.oO b (hown b hb).1, hI.stp.oF⟩, (fun n x hx => by rw [hE] at hx; cases hx), hI.glo⟩, hown⟩
 ·intro n o v k1 k2
  match n, k1, k2 with
  | 0, k1, k2 =>
   cases k1
   cases k2
   refine ⟨b0, _, _, rfl, h02, ?_⟩
   show VRs _ _ _ _ [.own 1] [x0]
   simp only [VRs, VR, and_true]
   exact ⟨by have := h03.1; simpa using this, h03.2⟩
  | 1, k1, k2 =>
   cases k1
   cases k2
   exact h3
  | n + 2, k1, k2 => cases k2
 ·intro n m o o' v v' b k1 k2 k3 k4 k5 k6 k7 k8
  match n, m, k1, k2, k5, k6 with
  | 0, 0, _, _, _, _ => rfl
  | 1, 1, _, _, _, _ => rfl
  | 0, 1, k1, k2, k5, k6 =>
   cases k5
   cases k6
   have := hI.h.dist 0 3 _ _ _ _ b rfl rfl rfl rfl rfl rfl k7 k8
   omega
  | 1, 0, k1, k2, k5, k6 =>
   cases k5
   cases k6
   have := hI.h.dist 3 0 _ _ _ _ b rfl rfl rfl rfl rfl rfl k7 k8
   omega
  | n + 2, _, _, _, k5, _ => cases k5
  | 0, m + 2, _, _, _, k6 => cases k6
  | 1, m + 2, _, _, _, k6 => cases k6

theorem aDl {P : Program} {g : FuncId} {fn : Func} {c : Code} {args : Array Value} {w : World} {R : Ending → World → Prop} (hf : P.funcs[g]? = some fn) (hb : fn.body = some c)
  (h : wpAt g P c (fun e a w => match e with
   | .ret => ∃ D, a.defers = [{ target := .collected D, args := #[] }] ∧ ∃ w', (Instr.takeDeferred D).run P w = .ok [] w' ∧ ∃ v, (results fn a.tmps).run P w' = .ok v w' ∧ R (.returned v) w'
   | _ => False) { tmps := args ++ Array.replicate (fn.ntmps - args.size) undef, defers := [] } w) : Calls P g args w R := by
 refine (callsIn_wide (n := 0)).1 ⟨trivial, fun cs hr =>?_⟩
 let b : Frame := { (default : Frame) with fn := g, kind := .normal, roundOf := none }
 have henter : Frame.enter P g args .normal = b.atR { tmps := args ++ Array.replicate (fn.ntmps - args.size) undef, defers := [] } [.code c] := by
  simp [Frame.enter, Frame.atR, hf, hb, b]
 obtain ⟨e, a', w', hq, harr⟩ := h b [] cs rfl rfl
 rw [← henter] at harr
 cases e with
 | ret =>
  obtain ⟨D, hd, w₂, h1, h2⟩ := hq
  obtain ⟨todo, hs₀⟩ := harr.1 rfl
  obtain ⟨e', w'', fr', hR, hs, hfn, hl⟩ := leaves_stepsInM (F := Fence.wide) (n := 0) (R := R) (tmps := a'.tmps) a'.defers .returning w' { b.atR a' todo with mode := .returning } cs rfl rfl rfl hf rfl trivial hr
   (by rw [hd]; exact ⟨by simp, .inl ⟨D, w₂, rfl, h1, h2⟩⟩)
  exact ⟨e', w'', fr', hR, ComesIn.of_steps hs₀ hs, hfn, hl⟩
 | normal => exact hq.elim
 | panic c => exact hq.elim
 | exit i => exact hq.elim
 | goto l => exact hq.elim
 | outgrown => exact hq.elim

theorem bNo (A : Option Addr) (l : List Int) (c : Nat) (hl : l.length ≤ 1000000) (hc : l.length ≤ c) (k : Nat) (hk : k * 5 < l.length) (W : World) :
  (Instr.slice 24 (.slice A l.length c) (some (.int .i64 ((k * 5 : Nat) : Int))) (some (.int .i64 (((k * 5 : Nat) : Int) + ((mT l k).length : Int)))) (some (.int .i64 (((k * 5 : Nat) : Int) + ((mT l k).length : Int))))).run Tryz.prog W = .ok (winV A l k) W := by
 have h4 := aDk l k
 have hq : (Tryz.prog.info? 3).map (·.size) = some 1 := by kernel_rfl
 obtain ⟨i0, hi0, hsz⟩ := Option.map_eq_some_iff.1 hq
 have hel : Tryz.prog.elem 24 = 3 := by kernel_rfl
 have hu : Tryz.prog.underlying 24 = some (.slice (Tryz.prog.elem 24)) := by kernel_rfl
 rw [run_slice_lhm W 24 A l.length c hu .i64 .i64 .i64 _ _ _ (by omega) (by omega) (by omega) (by omega), hel]
 unfold winV
 have e1 : ((k * 5 : Nat) : Int).toNat = k * 5 := by omega
 generalize (mT l k).length = e at *
 have e2 : (((k * 5 : Nat) : Int) + (e : Int)).toNat = k * 5 + e := by omega
 rw [e1, e2]
 simp [sizeOf, typeInfo, hi0, hsz, sliced, Result.andThen]
 omega
theorem bJo {E1 : Ent} {l : List Int} (hlen : l.length ≤ 1000000) {b0 b1 b2 c : Nat} {A : Option Addr} {u : Array Value} (hu : u.size = 21) (hu3 : u.toList[3]? = some (ptB b0)) {w1 : World} {ρ1 : List Value} {F1 : Nat → Prop} {t1 t2 : TypeId}
  (hE : E1 = ⟨ρ1, w1, Own ρ1 (lH2 []), F1, E1.L, [], false⟩) (hI : InvH gl E1 (lH2 []) w1 ρ1 F1) (h0 : ρ1[0]? = some (ptB b0)) (h1 : w1.heap[b1]? = some (.cells #[.slice A l.length c] t1 (0, 0))) (h2 : w1.heap[b2]? = some (.cells #[.int .i64 5] t2 (0, 0)))
  (hl : Rd w1 F1 (.sl .int) l [.slice A l.length c]) (hc : l.length ≤ c) (hn1 : ¬ Own ρ1 (lH2 []) b1) (hn2 : ¬ Own ρ1 (lH2 []) b2)
  {lp : Loop} (hlp : lp = { state := .ready, pending := none, fn := 69, tmps := u, params := #[9], assign := lA, body := lC, defers := w1.heap.size }) :
  Calls Tryz.prog 170 #[.func (.yield (w1.heap.size + 1)) #[] #[], ptB b1, ptB b2] ((w1.alloc (.deferred (some []))).alloc (.loop lp)) fun e W' =>
   (∃ v, e = .returned v) ∧ LJ E1 l w1.heap.size lp (List.range ((l.length + 4) / 5)) W' := by
 have hlt1 : b1 < w1.heap.size := (Array.getElem?_eq_some_iff.1 h1).1
 have hlt2 : b2 < w1.heap.size := (Array.getElem?_eq_some_iff.1 h2).1
 have hfz : ∀ b, F1 b → b < w1.heap.size ∧ ¬ Own ρ1 (lH2 []) b := fun b hb => hI.h.froz b (.inl hb)
 have hkeep : ∀ {pre : List Nat} {W : World}, LJ E1 l w1.heap.size lp pre W → W.cell? ⟨b1, 0, none⟩ = some (.slice A l.length c) ∧ W.cell? ⟨b2, 0, none⟩ = some (.int .i64 5) := by
  rintro pre W ⟨⟨ρ, F, hI', _⟩, _, _⟩
  have hb := hI'.stp.ch.block
  rw [hE] at hb
  have q1 := hb b1 hlt1 hn1
  have q2 := hb b2 hlt2 hn2
  constructor
  ·simp [World.cell?, q1, h1]
  ·simp [World.cell?, q2, h2]
 refine (callsIn_wide (n := 1)).1 ((bBg 1 (by omega) (w1.heap.size + 1) b1 b2 A l.length c 5 ((l.length + 4) / 5) (fun k => (mT l k).length) (winV A l) hc (by omega) ?lo ?hi ?cut
  (LJ E1 l w1.heap.size lp) (fun _ _ => False) (fun s W q h => h.drew q) ?yy ((w1.alloc (.deferred (some []))).alloc (.loop lp)) ?s1 ?s2 ?start).mono ?fin)
 case lo =>
  intro k hk
  have h4 := aDk l k
  have : k * 5 < l.length := by omega
  refine ⟨this, by omega, ?_⟩
  by_cases h5 : k * 5 + 5 ≤ l.length
  ·left; exact ⟨h5, by omega⟩
  ·right; exact ⟨by omega, by omega⟩
 case hi => omega
 case cut => exact fun k hk W => bNo A l c hlen hc k (by omega) W
 case yy =>
  intro pre x W hJ hp
  have hr := bHc (x := x) hu hu3 (by rw [hE]; exact Nat.le_refl _) (by rw [hE]; exact h0) hlp (A := A) (c := c) (by rw [hE]; exact hl) (by rw [hE]; exact hfz) hJ (by omega)
  obtain ⟨fn, tmps, asg, bd, hy, hR⟩ := hr
  refine ⟨fn, tmps, asg, bd, hy, hR.mono ?_⟩
  rintro e W' ⟨rfl, q⟩
  exact .inl ⟨rfl, q, hkeep q⟩
 case start =>
  have hch : Ch w1 ((w1.alloc (.deferred (some []))).alloc (.loop lp)) (fun _ => False) := ((Ch.alloc w1 _ _).trans (Ch.alloc _ _ _)).mono (fun _ h => h.elim id id)
  refine ⟨⟨ρ1, F1, ⟨hI.h.still hch, hI.stp.still hch, hI.pk, hI.glo.mono (fun b hb => hch.block b (hI.h.froz b (.inl hb)).1 id) (fun _ h => h)⟩, fun b hb => ⟨fun h =>?_, fun h =>?_⟩⟩, ?_, ?_⟩
  ·have := hI.h.own_lt h
   omega
  ·have := (hI.h.froz b h).1
   omega
  ·rw [Below.heap_alloc _ _ _ (by simp)]
   exact World.alloc_heap_new _ _
  ·have := World.alloc_heap_new (w1.alloc (.deferred (some []))) (.loop lp)
   simpa using this
 case s1 =>
  have hch : Ch w1 ((w1.alloc (.deferred (some []))).alloc (.loop lp)) (fun _ => False) := ((Ch.alloc w1 _ _).trans (Ch.alloc _ _ _)).mono (fun _ h => h.elim id id)
  have := hch.block b1 hlt1 id
  simp [World.cell?, this, h1]
 case s2 =>
  have hch : Ch w1 ((w1.alloc (.deferred (some []))).alloc (.loop lp)) (fun _ => False) := ((Ch.alloc w1 _ _).trans (Ch.alloc _ _ _)).mono (fun _ h => h.elim id id)
  have := hch.block b2 hlt2 id
  simp [World.cell?, this, h2]
 case fin =>
  rintro e W' ⟨h1, ⟨ys, rfl, h2⟩ | ⟨_, _, h2⟩⟩
  ·exact ⟨h1, h2⟩
  ·exact h2.elim

theorem bNp : (lopE 69 Tryz.f69).Ok (lopN 69 Tryz.f69) := by
 refine ⟨⟨Tryz.f69, body Tryz.f69, by kernel_rfl, by kernel_rfl, by kernel_rfl⟩, ?_⟩
 rintro av h ⟨⟨l, _⟩, _⟩ y hd hy ρ F L w us hR hv hg
 obtain ⟨hn0, hI⟩ := lP (nt := loF.ntmps) hd hR hv hg false
 have hy2 : (bif decide (l.length ≤ 1000000) then some ((kV l.length l, ()), ()) else none) = some y := hy
 clear hy
 by_cases hlen : l.length ≤ 1000000
 case neg => rw [decide_eq_false hlen] at hy2; cases hy2
 rw [decide_eq_true hlen, cond_true] at hy2
 obtain rfl : ((kV l.length l, ()), ()) = y := Option.some.inj hy2
 have hops : kV l.length l = pG l (List.range ((l.length + 4) / 5)) := by
  have := aOb l ((l.length + 4) / 5) l.length 0 (by omega) (by omega)
  rw [List.range_eq_range', ← this]
  simp
 refine (aDl (fn := loF) (c := body loF) (by kernel_rfl) (by kernel_rfl) (R := EndR gl ⟨ρ, w, Own ρ h, F, L, [], false⟩ (AOut.ret (.sl (.st .opn) (kV l.length l)), [])) ?_).mono ?_
 rotate_left
 ·rintro e w' ⟨ρ', F', k1, k2⟩
  exact ⟨ρ', F', k1, k2.h, k2.stp, k2.pk, fun i hi => nomatch hi⟩
 rw [b69]
 generalize hE0 : (⟨ρ, w, Own ρ h, F, L, [], false⟩ : Ent) = E0 at hI ⊢
 have hn2 : E0.ρ.length = 0 := by rw [← hE0]; exact hn0
 have hnil : E0.ρ = [] := List.eq_nil_of_length_eq_zero hn2
 have hz := bNl l
 simp only [exec] at hz
 refine mG (K := fun _ _ _ => False) (N := fun a w => ∃ s ρ F, Inv gl E0 s a w ρ F ∧ exec Tryz.prog gl kd loG 0 plan [] lNh (.seq lR1 lR2) s lK = some (lX l []))
  (oJ (wp_mono (bC hm aTy bI hn2 lR0 (.inl (by rw [← hE0])) (aA (by kernel_rfl)) hI hz) (fun ex a1 w1 q =>?_))) ?_ (fun _ _ _ h => h.elim)
 ·cases ex with
  | exit i => obtain ⟨s, ρ1, F1, h1, h2⟩ := q; cases h2
  | ret => obtain ⟨s, ρ1, F1, h1, h2⟩ := q; cases h2
  | panic c => obtain ⟨s, ρ1, F1, v, x, h1, h2, h3, h4, h5⟩ := q; cases h5
  | goto l => exact q.elim
  | outgrown => exact q.elim
  | normal => exact q
 clear hz hI
 rintro a w0 ⟨s, ρ0, F0, hI, hz⟩
 simp only [exec] at hz
 refine mG (K := fun _ _ _ => False) (N := fun a w => ∃ s ρ F, Inv gl E0 s a w ρ F ∧ exec Tryz.prog gl kd loG 0 plan [] lNh lR2 s lK = some (lX l []))
  (oJ (wp_mono (bC hm aTy bI hn2 lR1 (.inl (by rw [← hE0])) (aA (by kernel_rfl)) hI hz) (fun ex a1 w1 q =>?_))) ?_ (fun _ _ _ h => h.elim)
 ·cases ex with
  | exit i => obtain ⟨s, ρ1, F1, h1, h2⟩ := q; cases h2
  | ret => obtain ⟨s, ρ1, F1, h1, h2⟩ := q; cases h2
  | panic c => obtain ⟨s, ρ1, F1, v, x, h1, h2, h3, h4, h5⟩ := q; cases h5
  | goto l => exact q.elim
  | outgrown => exact q.elim
  | normal => exact q
 clear hz hI
 rintro a w0 ⟨s, ρ0, F0, hI, hz⟩
 let NL : Act → World → Prop := fun a w => ∃ D ρ F b0, a.defers = [{ target := .collected D, args := #[] }] ∧ a.tmps.size = 21 ∧ a.tmps.toList[3]? = some (ptB b0) ∧ w.heap[D]? = some (.deferred (some [])) ∧ E0.w.heap.size ≤ D ∧ InvH gl E0 (lH2 (kV l.length l)) w ρ F ∧ ρ[0]? = some (ptB b0) ∧ ¬ Own ρ (lH2 (kV l.length l)) D ∧ ¬ Bx F E0.L D
 refine mG (N := NL) (K := fun _ _ _ => False) ?range ?after (fun _ _ _ h => h.elim)
 case range =>
  refine mG (K := fun _ _ _ => False) (N := fun a w => ∃ s ρ F, Inv gl E0 s a w ρ F ∧ lK .normal s = some (lX l []))
   (oJ (wp_mono (bC hm aTy bI hn2 lR2 (.inl (by rw [← hE0])) (aA (by kernel_rfl)) hI hz) (fun ex a1 w1 q =>?_))) ?_ (fun _ _ _ h => h.elim)
  ·cases ex with
   | exit i => obtain ⟨s, ρ1, F1, h1, h2⟩ := q; cases h2
   | ret => obtain ⟨s, ρ1, F1, h1, h2⟩ := q; cases h2
   | panic c => obtain ⟨s, ρ1, F1, v, x, h1, h2, h3, h4, h5⟩ := q; cases h5
   | goto l => exact q.elim
   | outgrown => exact q.elim
   | normal => exact q
  clear hz hI
  rintro a1 w1 ⟨s1, ρ9, F9, hI, hz⟩
  simp only [lK] at hz
  split at hz
  case isFalse => cases hz
  rename_i hnt
  obtain ⟨ρ1, F1, hI1⟩ := kZ hn2 hI hnt hz
  have hsz : a1.tmps.size = 21 := by
   have := hI1.rep.tm.length
   rw [mB] at this
   exact (Array.length_toList (xs := a1.tmps)) ▸ this.symm
  have ht := fun t => hI1.rep.tm.getD t undef
  have t1 := ht 3
  have t8 := ht 8
  have q1 : (Go.Ax.setT loF.ntmps (([3, 8] : List Nat).zip (VhL.enc lvs (lX l []).1))).getD 3 .any = .ptr 0 0 := by kernel_rfl
  have q8 : (Go.Ax.setT loF.ntmps (([3, 8] : List Nat).zip (VhL.enc lvs (lX l []).1))).getD 8 .any = .clo 170 [.ptr 1 0, .ptr 2 0] := by kernel_rfl
  dsimp only at t1 t8
  rw [q1] at t1
  rw [q8] at t8
  have hI2 : InvH gl E0 (lH l []) w1 ρ1 F1 := hI1.toInvH
  obtain ⟨b0, b1, b2, A, c, v3, ty1, ty2, rfl, hb1, hb2, hrd, hc, hI3, hown⟩ := bJn hnil hI2
  simp only [VR] at t1 t8
  obtain ⟨b0', k2, t1⟩ := t1
  obtain rfl : b0 = b0' := by simpa [ptB] using k2
  obtain ⟨cs, ⟨t8, _⟩, k3⟩ := t8
  obtain ⟨cs, rfl⟩ : ∃ l : List Value, cs = l.toArray := ⟨cs.toList, by simp⟩
  obtain ⟨va, vb, rfl⟩ : ∃ va vb, cs = [va, vb] := by
   match cs, k3.length with
   | [va, vb], _ => exact ⟨va, vb, rfl⟩
  simp only [VRs, VR, and_true] at k3
  obtain ⟨⟨b1', k31, rfl⟩, ⟨b2', k32, rfl⟩⟩ := k3
  obtain rfl : b1 = b1' := by simpa [ptB] using k31
  obtain rfl : b2 = b2' := by simpa [ptB] using k32
  have g8 : a1.tmps.getD 8 undef = .func (.func 170) #[] #[ptB b1, ptB b2] := by
   rw [List.getD_eq_getElem?_getD, Array.getElem?_toList] at t8
   rw [Array.getD_eq_getD_getElem?, t8]
   rfl
  have g1 : a1.tmps.toList[3]? = some (ptB b0) := by
   rw [List.getD_eq_getElem?_getD, Array.getElem?_toList] at t1
   rw [Array.getElem?_toList]
   rw [Array.getElem?_eq_getElem (by omega)] at t1 ⊢
   exact congrArg some t1
  let E1 : Ent := ⟨[ptB b0, v3], w1, Own [ptB b0, v3] (lH2 []), F1, E0.L, [], false⟩
  have hI4 : InvH gl E1 (lH2 []) w1 [ptB b0, v3] F1 := ⟨hI3.h, .refl _ _ _, .refl _, hI3.glo⟩
  rw [leB]
  refine aCn (qC (d := { target := .fn (.func 170) #[ptB b1, ptB b2], args := #[.func (.yield (w1.heap.size + 1)) #[] #[]] }) (f := 170) (args := #[.func (.yield (w1.heap.size + 1)) #[] #[], ptB b1, ptB b2]) rfl ?_ ?_
   ((bJo (E1 := E1) hlen hsz g1 rfl hI4 rfl hb1 hb2 hrd hc (fun h => (hown _ h).2.1 rfl) (fun h => (hown _ h).2.2 rfl) rfl).mono ?_))
  ·have g8' : a1.tmps[8]?.getD undef = .func (.func 170) #[] #[ptB b1, ptB b2] := by rw [← g8, Array.getD_eq_getD_getElem?]
   simp [resolve, rangeCall, go_sem, g8']
  ·simp [invoke, kY (⟨Tryz.f170, body Tryz.f170, by kernel_rfl, by kernel_rfl, by kernel_rfl⟩ : Callable Tryz.prog 170)]
  ·have hup : ∀ {hp : List AObj} {w3 : World} {ρ3 : List Value} {F3 : Nat → Prop}, InvH gl E1 hp w3 ρ3 F3 → InvH gl E0 hp w3 ρ3 F3 := fun h => ⟨h.h, hI3.stp.trans h.stp, hI3.pk.trans h.pk, h.glo⟩
   have hds : a1.defers = [] := by
    have := hI1.dfs
    rw [← hE0] at this
    exact this
   have hD0 : E0.w.heap.size ≤ w1.heap.size := hI3.stp.ch.size
   rintro e w3 ⟨⟨v, rfl⟩, ⟨ρ3, F3, hI5, hN⟩, hdd, hll⟩
   rw [← hops] at hI5 hN
   exact ⟨_, run_endLoop hll (by simp), w1.heap.size, ρ3, F3, b0, by rw [hds], hsz, g1, (World.putObj_heap_other (by omega)).trans hdd, hD0, gT (hup hI5) (oK _ _ _) (hN _ (.inr rfl)).1 (hN _ (.inr rfl)).2 (.inl (by omega)), hI5.pk _ _ rfl, (hN _ (.inl rfl)).1, (hN _ (.inl rfl)).2⟩
 case after =>
  rintro a4 w4 ⟨D, ρ4, F4, b0, hdf, hsz, g1, hdd, hD0, hI4, k2, hN1, hN2⟩
  let E4 : Ent := ⟨ρ4, w4, Own ρ4 (lH2 (kV l.length l)), F4, E0.L, [{ target := .collected D, args := #[] }], false⟩
  have hI5 : Inv gl E4 (lS (lH2 (kV l.length l))) a4 w4 ρ4 F4 := by
   refine .of ⟨iF (by simpa using hsz) (fun q hq =>?_), hI4.h⟩ (.refl _ _ _) (.refl _) hI4.glo hdf
   simp only [List.mem_cons, List.not_mem_nil, or_false] at hq
   subst hq
   simp only [VR]
   refine ⟨b0, k2, ?_⟩
   rw [List.getD_eq_getElem?_getD, g1]
   rfl
  have hn4 : E4.ρ.length = 2 := hI4.h.len
  refine oJ (wp_mono (bC hm GOk.nil bI hn4 lR4 (.inl rfl) (aA (by kernel_rfl)) hI5 (bNm (kV l.length l))) (fun ex a5 w5 q =>?_))
  cases ex with
  | exit i => obtain ⟨s, ρ1, F1, h1, h2⟩ := q; cases h2
  | normal => obtain ⟨s, ρ1, F1, h1, h2⟩ := q; cases h2
  | panic c => obtain ⟨s, ρ1, F1, v, x, h1, h2, h3, h4, h5⟩ := q; cases h5
  | goto l => exact q.elim
  | outgrown => exact q.elim
  | ret =>
   obtain ⟨s5, ρ5, F5, h1, h2⟩ := q
   obtain ⟨vals, hvl, h2⟩ := Option.bind_eq_some_iff.1 (show ((oE Tryz.prog s5 loF.results.toList).bind fun vals => dP 2 [.s (.e (.sl (.st .opn)))] [.any, .any] vals s5) = some ((kV l.length l, ()), ((), (), ())) from h2)
   have hlt : D < w4.heap.size := (Array.getElem?_eq_some_iff.1 hdd).1
   obtain ⟨us5, r1, r2⟩ := pS (fn := loF) h1 (by kernel_rfl) hvl
   obtain ⟨ρ6, F6, h3, h3v⟩ := bV hn4 h1.rep h1.toInvH r2 h2
   have hN5 : ¬ Own ρ6 (OShL.enc [.any, .any] ((), (), ())) D ∧ ¬ Bx F6 E0.L D := by
    refine ⟨fun h =>?_, fun h =>?_⟩
    ·rcases h3.stp.oO D h with h | h
     ·exact hN1 h
     ·exact absurd hlt (by exact Nat.not_lt.2 h)
    ·rcases h with h | h
     ·rcases h3.stp.oF D h with h | h | h
      ·exact hN2 (.inl h)
      ·exact hN1 h
      ·exact absurd hlt (by exact Nat.not_lt.2 h)
     ·exact hN2 (.inr h)
   have hd5 : w5.heap[D]? = some (.deferred (some [])) := (h3.stp.ch.block D hlt hN1).trans hdd
   have hI6 : InvH gl E0 (OShL.enc [.any, .any] ((), (), ())) w5 ρ6 F6 := ⟨h3.h, hI4.stp.trans h3.stp, hI4.pk.trans h3.pk, h3.glo⟩
   have hI7 := gT hI6 (oK _ D (.deferred none)) hN5.1 hN5.2 (.inl (by omega))
   have hv5 : VRs ρ6 (w5.putObj D (.deferred none)) F6 (Bx F6 E0.L) [.sl (.st .opn) (kV l.length l)] us5 := (VR.mono (fun _ _ h => h) (fun b hb => World.putObj_heap_other (by rintro rfl; exact hN5.2 (.inl hb))) (fun b hb => World.putObj_heap_other (by rintro rfl; exact hN5.2 hb)) (fun _ h => h) (fun _ h => h)).2 _ _ h3v
   obtain ⟨ρ8, F8, h8, h9⟩ := bV hn2 (a := Go.Ax.nil) hI7.h.rep hI7 hv5 (bMk (kV l.length l))
   have r3 : (results loF a5.tmps).run Tryz.prog (w5.putObj D (.deferred none)) = .ok (tupU us5) (w5.putObj D (.deferred none)) := by
    have k1 := results_tmp (fn := loF) (t := 2) (by kernel_rfl) a5.tmps Tryz.prog
    have k2 := (k1 w5).symm.trans r1
    rw [k1]
    injection k2 with k2
    rw [k2]
   exact ⟨D, h1.dfs, _, run_takeDeferred hd5, _, r3, ρ8, F8, ⟨_, rfl, rS h9⟩, h8⟩
open Go.Proofs
noncomputable abbrev conOE : Fe := conE 68 Tryz.f68 (.st .opn)
noncomputable abbrev conON : conOE.T := conN 68 Tryz.f68 (.st .opn)
theorem conO_ok : conOE.Ok conON := bMb
noncomputable abbrev linOpsE : Fe := lopE 69 Tryz.f69
noncomputable abbrev linOpsN : linOpsE.T := lopN 69 Tryz.f69
theorem linOps_ok : linOpsE.Ok linOpsN := bNp
noncomputable abbrev trnNewL0E : Le := ⟨0, Tryz.f25, 0, [4, 9, 44, 45, 46], [pm, .s (.ptr 1 0), .s (.e (.sl (.sl (.st .opn)))), vi, vi], [.box [.e (.st .wld)], .box [.e (.st .shr), .own 2, .nil, .nil], .arr (.st .thr)], (Fin.one 0 Tryz.f25.ntmps (.exit 0) [4, 9] [pm, .s (.ptr 1 0)] [.box [.e (.st .wld)], .box [.e (.st .shr), .own 2, .nil, .nil], .arr (.st .thr)])⟩
noncomputable def kA (p0 : linWriE.T) (p1 : linOpsE.T) (v2 : List (List Opn)) (v3 v4 : Int) (v5 : Wld) (v6 : Shr) (v10 : List Thr) : Option (trnNewL0E.X ⊕ trnNewL0E.fin.Y) := bif decide (v4 < v3) then bif inR v4 v2.length then (p0 ((rdE (EK.st SN.opn).sl v2 v4, ()), ())).bind fun z => (p1 ((z.1.1, ()), ())).bind fun z => bif inR v4 v10.length then some (Sum.inl (((), (), v2, v3, w64 (v4 + 1), ()), (v5, ()), (v6, (), (), (), ()), wrE (EK.st SN.thr) v10 v4 (Thr.mk z.1.1 (rdE (EK.st SN.thr) v10 v4).at_ (rdE (EK.st SN.thr) v10 v4).busy (rdE (EK.st SN.thr) v10 v4).got), ())) else none else none else some (Sum.inr (((), (), ()), (v5, ()), (v6, (), (), (), ()), v10, ()))
noncomputable def trnNewL0N : trnNewL0E.T := trnNewL0E.lp (trnNewL0E.un (kA linWriN linOpsN))
theorem aIo (p0 : linWriE.T) (p1 : linOpsE.T) (x) : trnNewL0E.run [linWriE.on p0, linOpsE.on p1] [] [] x = trnNewL0E.un (kA p0 p1) x := by kernel_rfl
theorem aOc : trnNewL0E.Ok trnNewL0N := Le.k f1 (linWri_ok.k (linOps_ok.k g0)) (aA (by kernel_rfl)) (aIo linWriN linOpsN)
noncomputable abbrev trnNewE : Fe := ⟨25, Tryz.f25, [.s (.e (.st .cfg)), .s (.e (.sl (.sl (.st .opn))))], [], [.s (.e (.st .wld)), vi], []⟩
noncomputable def aBe (p0 : askNewE.T) (p1 : linWriE.T) (p2 : conOE.T) (p3 : linOpsE.T) (p4 : trnNewL0E.T) (c : Cfg) (ops : List (List Opn)) : Option trnNewE.Y := (p2 ((ops, ()), ())).bind fun z => bif decide (Int.ofNat ops.length < 1) then some ((Wld.mk (Shr.mk [] [] (Pool.mk [] [] [] []) (Pool.mk [] [] [] []) (Pool.mk [] [] [] []) (Era.mk 0 [])) [] [] [], 1, ()), ()) else bif decide (Int.ofNat ops.length > 64) then some ((Wld.mk (Shr.mk [] [] (Pool.mk [] [] [] []) (Pool.mk [] [] [] []) (Pool.mk [] [] [] []) (Era.mk 0 [])) [] [] [], 1, ()), ()) else bif decide (Int.ofNat (List.length z.1.1) > 64) then some ((Wld.mk (Shr.mk [] [] (Pool.mk [] [] [] []) (Pool.mk [] [] [] []) (Pool.mk [] [] [] []) (Era.mk 0 [])) [] [] [], 1, ()), ()) else (p0 ((c, Int.ofNat ops.length, ()), ())).bind fun z => bif z.1.2.1 != 0 then some ((Wld.mk (Shr.mk [] [] (Pool.mk [] [] [] []) (Pool.mk [] [] [] []) (Pool.mk [] [] [] []) (Era.mk 0 [])) [] [] [], z.1.2.1, ()), ()) else bif decide (0 ≤ Int.ofNat ops.length) && decide (Int.ofNat ops.length ≤ 1000000000) then (p4 (((), (), ops, Int.ofNat ops.length, 0, ()), (Wld.mk (Shr.mk [] [] (Pool.mk [] [] [] []) (Pool.mk [] [] [] []) (Pool.mk [] [] [] []) (Era.mk 0 [])) [] [] [], ()), (z.1.1, (), (), (), ()), List.replicate (Int.ofNat ops.length).toNat (Thr.mk [] 0 false []), ())).bind fun z => some ((Wld.mk z.2.2.1.1 z.2.2.2.1 [] [], 0, ()), ()) else none
noncomputable def trnNewN : trnNewE.T := trnNewE.un (aBe askNewN linWriN conON linOpsN trnNewL0N)
theorem aTz (p0 : askNewE.T) (p1 : linWriE.T) (p2 : conOE.T) (p3 : linOpsE.T) (p4 : trnNewL0E.T) (x) : trnNewE.run [askNewE.on p0, linWriE.on p1, conOE.on p2, linOpsE.on p3] [(9, trnNewL0E.on p4)] [] x = trnNewE.un (aBe p0 p1 p2 p3 p4) x := by kernel_rfl
theorem trnNew_ok : trnNewE.Ok trnNewN := Fe.k (by kernel_rfl) (askNew_ok.k (linWri_ok.k (conO_ok.k (linOps_ok.k g0)))) (bD (by kernel_rfl) (lsc (by kernel_rfl) aOc rfl lsn)) (aTz askNewN linWriN conON linOpsN trnNewL0N)
end Go.Ax.Cd
