/- Merged. -/
import Derived.Test.YthcfkplfmjcmoaaGreatDoorQ26
import Derived.Test.YthcfkplfmjcmoaaGreatDoorQ24
namespace Go.Ax.Cd
set_option linter.unusedVariables false
set_option maxRecDepth 100000
namespace SPr
inductive Blk (s : Nat) : List Pr → Prop
 | last (l : List Pr) : l.length ≤ s → Srt ky l → Blk s l
 | cons (c l : List Pr) : c.length = s → Srt ky c → Blk s l → Blk s (c ++ l)
theorem Blk.srt {s : Nat} {l : List Pr} (h : Blk s l) (hl : l.length ≤ s) : Srt ky l := by
 cases h with
 | last _ h1 h2 => exact h2
 | cons c l' h1 h2 h3 =>
  have : l' = [] := by
   rw [← List.length_eq_zero_iff]
   simp at hl
   omega
  subst this
  rw [List.append_nil]
  exact h2
theorem Blk.two {s : Nat} {l : List Pr} (h : Blk s l) (hl : s < l.length) : ∃ c R, l = c ++ R ∧ c.length = s ∧ Srt ky c ∧ Blk s R := by
 cases h with
 | last _ h1 h2 => omega
 | cons c l' h1 h2 h3 => exact ⟨c, l', rfl, h1, h2, h3⟩
theorem first_loop {n : Int} : ∀ (k : Nat) (R D : List Pr), n = D.length + R.length → (D ++ R).length ≤ 1000000 → R.length < k →
  ∃ F R2, (T.loop (cW n 20) k ((D.length : Int), (D.length : Int) + 20, D ++ R)).val = some (((D.length + F.length : Nat) : Int), D ++ F ++ R2) ∧ R2.length < 20 ∧ SE ky (F ++ R2) R ∧ (∀ X, Blk 20 X → Blk 20 (F ++ X))
 | 0, R, D, hn, hs, hk => by omega
 | k + 1, R, D, hn, hs, hk => by
  simp only [List.length_append] at hs
  by_cases c : R.length < 20
  ·refine ⟨[], R, bA ?_, c, SE.refl _, fun X h => h⟩
   have c1 : ¬ ((D.length : Int) + 20 ≤ n) := by omega
   simp [cW, c1, T.val_ret]
  ·obtain ⟨C, R, rfl, hC⟩ : ∃ C R', R = C ++ R' ∧ C.length = 20 := ⟨R.take 20, R.drop 20, by simp, by simp; omega⟩
   simp only [List.length_append] at hs hn hk
   have c1 : (D.length : Int) + 20 ≤ n := by omega
   have hv := ins_val (a := (D.length : Int)) (b := (D.length : Int) + 20) D C R rfl (by omega) (by simp; omega)
   have lI : (aG ky C).length = 20 := by rw [aL, hC]
   obtain ⟨F, R2, k1, k2, k3, k4⟩ := first_loop (n := n) k R (D ++ aG ky C) (by simp [lI]; omega) (by simp [lI]; omega) (by omega)
   have e1 : w64 ((D.length : Int) + 20 + 20) = ((D ++ aG ky C).length : Int) + 20 := by rw [aD] <;> (try simp [lI]) <;> omega
   have e2 : ((D ++ aG ky C).length : Int) = (D.length : Int) + 20 := by simp [lI]
   refine ⟨aG ky C ++ F, R2, aW (s' := (((D ++ aG ky C).length : Int), ((D ++ aG ky C).length : Int) + 20, D ++ aG ky C ++ R)) ?_ (k1.trans ?_), k2, ?_, fun X h =>?_⟩
   ·simp only [cW, c1, decide_true, cond_true, T.val_bind]
    rw [show D ++ (C ++ R) = D ++ C ++ R by simp, hv]
    simp only [Option.bind_some, T.val_ret, e1]
    rw [e2]
   ·simp
    omega
   ·rw [List.append_assoc]
    exact SE.append (bZ C) k3
   ·rw [List.append_assoc]
    exact .cons _ _ lI (bW C) (k4 X h)
theorem pass_loop {n : Int} {s : Nat} (h0 : 0 < s) (hs1 : s ≤ 1000000) : ∀ (k : Nat) (R D : List Pr), Blk s R → n = D.length + R.length → (D ++ R).length ≤ 1000000 → R.length < k →
  ∃ F R2, (T.loop (cE n (s : Int)) k ((D.length : Int), (D.length : Int) + 2 * s, D ++ R)).val = some (((D.length + F.length : Nat) : Int), D ++ F ++ R2) ∧ R2.length < 2 * s ∧ Blk s R2 ∧ SE ky (F ++ R2) R ∧ (∀ X, Blk (2 * s) X → Blk (2 * s) (F ++ X))
 | 0, R, D, hR, hn, hs, hk => by omega
 | k + 1, R, D, hR, hn, hs, hk => by
  simp only [List.length_append] at hs
  by_cases c : R.length < 2 * s
  ·refine ⟨[], R, bA ?_, c, hR, SE.refl _, fun X h => h⟩
   have c1 : ¬ ((D.length : Int) + 2 * s ≤ n) := by omega
   simp [cE, c1, T.val_ret]
  ·obtain ⟨C1, R1, rfl, hC1, sC1, hR1⟩ := hR.two (by omega)
   simp only [List.length_append] at hs hn hk c
   obtain ⟨C2, R, rfl, hC2, sC2, hR⟩ : ∃ C2 R', R1 = C2 ++ R' ∧ C2.length = s ∧ Srt ky C2 ∧ Blk s R' := by
    by_cases c2 : R1.length ≤ s
    ·exact ⟨R1, [], by simp, by omega, hR1.srt c2, .last [] (by simp) (by simp [Srt])⟩
    ·exact hR1.two (by omega)
   simp only [List.length_append] at hs hn hk c
   have c1 : (D.length : Int) + 2 * s ≤ n := by omega
   have e0 : w64 ((D.length : Int) + (s : Int)) = (D.length : Int) + (s : Int) := by rw [aD] <;> omega
   have hv := sortM_val (P := D) (U := C1) (V := C2) (Q := R) (a := (D.length : Int)) (m := w64 ((D.length : Int) + (s : Int))) (b := (D.length : Int) + 2 * s) (by omega) (by omega) sC1 sC2 rfl (by rw [e0]; omega) (by omega) (by simp; omega)
   have lI : (aG ky (C1 ++ C2)).length = 2 * s := by rw [aL]; simp; omega
   obtain ⟨F, R2, k1, k2, k2', k3, k4⟩ := pass_loop (n := n) h0 hs1 k R (D ++ aG ky (C1 ++ C2)) hR (by simp [lI]; omega) (by simp [lI]; omega) (by omega)
   have e3 : w64 (2 * (s : Int)) = 2 * s := by rw [aD] <;> omega
   have e1 : w64 ((D.length : Int) + 2 * s + w64 (2 * (s : Int))) = ((D ++ aG ky (C1 ++ C2)).length : Int) + 2 * s := by rw [e3, aD] <;> (try simp [lI]) <;> omega
   have e2 : ((D ++ aG ky (C1 ++ C2)).length : Int) = (D.length : Int) + 2 * s := by simp [lI]
   refine ⟨aG ky (C1 ++ C2) ++ F, R2, aW (s' := (((D ++ aG ky (C1 ++ C2)).length : Int), ((D ++ aG ky (C1 ++ C2)).length : Int) + 2 * s, D ++ aG ky (C1 ++ C2) ++ R)) ?_ (k1.trans ?_), k2, k2', ?_, fun X h =>?_⟩
   ·simp only [cE, c1, decide_true, cond_true, T.val_bind]
    rw [show D ++ (C1 ++ (C2 ++ R)) = D ++ C1 ++ C2 ++ R by simp, hv]
    simp only [Option.bind_some, T.val_ret, e1]
    rw [e2]
   ·simp
    omega
   ·rw [List.append_assoc, show C1 ++ (C2 ++ R) = (C1 ++ C2) ++ R by simp]
    exact SE.append (bZ _) k3
   ·rw [List.append_assoc]
    exact .cons _ _ lI (bW _) (k4 X h)
theorem outer_loop {n : Int} : ∀ (k : Nat) (s : Nat) (d : List Pr), 0 < s → s ≤ 2000000 → Blk s d → n = d.length → d.length ≤ 1000000 → d.length < s + k →
  ∃ d', (T.loop (bM n) (k + 1) ((s : Int), d)).val = some d' ∧ Srt ky d' ∧ SE ky d' d
 | 0, s, d, h0, hs1, hd, hn, hs, hk => by
  refine ⟨d, bA ?_, hd.srt (by omega), SE.refl _⟩
  have c1 : ¬ ((s : Int) < n) := by omega
  simp [bM, c1, T.val_ret]
 | k + 1, s, d, h0, hs1, hd, hn, hs, hk => by
  by_cases c : (s : Int) < n
  ·obtain ⟨F, R2, k1, k2, k2', k3, k4⟩ := pass_loop (n := n) (s := s) h0 (by omega) 4611686018427387904 d [] hd (by simpa using hn) (by simpa using hs) (by omega)
   have hlen : F.length + R2.length = d.length := by
    have h1 := aL (key := ky) (F ++ R2)
    rw [gK k3, aL] at h1
    simp at h1
    omega
   have e3 : w64 (2 * (s : Int)) = 2 * s := by rw [aD] <;> omega
   have e4 : w64 ((s : Int) * 2) = ((2 * s : Nat) : Int) := by rw [aD] <;> omega
   simp only [List.length_nil, Int.ofNat_zero, Nat.zero_add, List.nil_append, Int.zero_add] at k1
   have k1' : (T.loop (cE n (s : Int)) 4611686018427387904 (0, w64 (2 * (s : Int)), d)).val = some ((F.length : Int), F ++ R2) := by rw [e3]; exact k1
   have e5 : w64 ((F.length : Int) + (s : Int)) = (F.length : Int) + (s : Int) := by rw [aD] <;> omega
   by_cases c2 : (F.length : Int) + (s : Int) < n
   ·obtain ⟨C1, R, rfl, hC1, sC1, hR⟩ := k2'.two (by omega)
    simp only [List.length_append] at hlen k2
    have sR := hR.srt (by omega)
    have hv := sortM_val (P := F) (U := C1) (V := R) (Q := []) (a := (F.length : Int)) (m := (F.length : Int) + (s : Int)) (b := n) (by omega) (by omega) sC1 sR rfl (by omega) (by omega) (by simp; omega)
    obtain ⟨d', j1, j2, j3⟩ := outer_loop (n := n) k (2 * s) (F ++ aG ky (C1 ++ R)) (by omega) (by omega) (k4 _ (.last _ (by rw [aL]; simp; omega) (bW _))) (by simp [aL]; omega) (by simp [aL]; omega) (by simp [aL]; omega)
    refine ⟨d', aW (s' := (((2 * s : Nat) : Int), F ++ aG ky (C1 ++ R))) ?_ j1, j2, j3.trans ((SE.append (SE.refl F) (bZ _)).trans k3)⟩
    simp only [bM, c, decide_true, cond_true, T.val_bind, k1', Option.bind_some, e5, c2]
    rw [show F ++ (C1 ++ R) = F ++ C1 ++ R ++ [] by simp, hv]
    simp only [Option.bind_some, T.val_ret, e4]
    simp
   ·have sR := k2'.srt (by omega)
    obtain ⟨d', j1, j2, j3⟩ := outer_loop (n := n) k (2 * s) (F ++ R2) (by omega) (by omega) (k4 _ (.last _ (by omega) sR)) (by simp; omega) (by simp; omega) (by simp; omega)
    refine ⟨d', aW (s' := (((2 * s : Nat) : Int), F ++ R2)) ?_ j1, j2, j3.trans k3⟩
    simp only [bM, c, decide_true, cond_true, T.val_bind, k1', Option.bind_some, e5, c2, decide_false, cond_false, T.val_ret, e4]
  ·refine ⟨d, bA ?_, hd.srt (by omega), SE.refl _⟩
   simp [bM, c, T.val_ret]
theorem stab_val (d : List Pr) (hs : d.length ≤ 1000000) : (jF d).val = some (aG ky d) := by
 have key : (jE (Int.ofNat d.length) d).val = some (aG ky d) := by
  obtain ⟨F, R2, k1, k2, k3, k4⟩ := first_loop (n := Int.ofNat d.length) 4611686018427387904 d [] (by simp) (by simpa using hs) (by omega)
  have hlen : F.length + R2.length = d.length := by
   have h1 := aL (key := ky) (F ++ R2)
   rw [gK k3, aL] at h1
   simp at h1
   omega
  simp only [List.length_nil, Int.ofNat_zero, Nat.zero_add, List.nil_append, Int.zero_add] at k1
  have hv := ins_val (a := (F.length : Int)) (b := Int.ofNat d.length) F R2 [] rfl (by simp; omega) (by simp; omega)
  simp only [List.append_nil] at hv
  have hl2 : (F ++ aG ky R2).length = d.length := by simp [aL]; omega
  obtain ⟨d', j1, j2, j3⟩ := outer_loop (n := Int.ofNat d.length) 4611686018427387903 20 (F ++ aG ky R2) (by omega) (by omega) (k4 _ (.last _ (by rw [aL]; omega) (bW _))) (by rw [hl2]; rfl) (by omega) (by omega)
  have hd' : d' = aG ky d := fE j2 (j3.trans ((SE.append (SE.refl F) (bZ _)).trans k3))
  unfold jE
  rw [T.val_bind, k1, Option.bind_some]
  simp only [T.val_bind, hv, Option.bind_some]
  have j1' : (T.loop (bM (Int.ofNat d.length)) 4611686018427387904 (20, F ++ aG ky R2)).val = some d' := j1
  rw [j1', hd']
  rfl
 unfold jF
 rw [T.val_bind, key]
 rfl
end SPr
open Go.Proofs
abbrev aY : List OSh := [.arr (.st .en)]
def lJ (a b : En) : T (Int) :=
 (sF a.edge b.edge).bind fun x0 =>
 .ret x0
@[reducible] def eV : PIf (VhL [.s (.e (.st .en)), .s (.e (.st .en))] × OShL []) (VhL [vi] × OShL []) where
 α := Int
 tr x := lJ x.1.1 x.1.2.1
 enc x a := ((a, ()), ())
abbrev cmpEn_T : Type := VhL [.s (.e (.st .en)), .s (.e (.st .en))] × OShL [] → Option (VhL [vi] × OShL [])
noncomputable abbrev aT (sp : cmpEn_T) : Con := Con.of [.s (.e (.st .en)), .s (.e (.st .en))] [] [vi] [] sp
noncomputable abbrev dC : cmpEn_T := PIf.spec eV
theorem aYy (p0 : cmpI_T) (a b : En) : runN Tryz.f263 [.s (.e (.st .en)), .s (.e (.st .en))] [] [vi] [] [(259, wJ p0)] [] [] (((a, b, ()), ()) : VhL [.s (.e (.st .en)), .s (.e (.st .en))] × OShL []) = ((p0 ((a.edge, b.edge, ()), ())).bind fun z => some ((z.1.1, ()), ())) := by kernel_rfl
theorem bDt : aK Tryz.prog gl 263 (aT dC) := by
 refine cnk (fn := Tryz.f263) (G := [(259, wJ aUx)]) (bDl (GOk.nil)) (by kernel_rfl) (by kernel_rfl) (Lc := []) (nh := []) (aA (by kernel_rfl)) ?_
 rintro ⟨⟨a, b, _⟩, _⟩
 refine (aYy ..).trans ?_
 show _ = ((lJ a b).val).map _
 unfold lJ
 repeat' (first|(refine cD (fun _ =>?_); try dsimp only [aH, cond_true, cond_false, Bool.not_true, Bool.not_false, one, mI, bDj]) | rfl)
theorem cJ {G : List (Nat × Con)} (h : GOk Tryz.prog gl G) : GOk Tryz.prog gl ((263, aT dC) :: G) := GOk.cons ⟨Tryz.f263, body Tryz.f263, by kernel_rfl, by kernel_rfl, by kernel_rfl⟩ bDt h
abbrev fT : List Vh := [.s (.ownC 0), vi, vi, vi, vi]
abbrev fU : List OSh := aY
noncomputable abbrev swapEnL0fin : Fin := (Fin.one 1 Tryz.f310.ntmps (.exit 0) [0] [.s (.ownC 0)] aY)
noncomputable abbrev qW (sp : VhL fT × OShL fU → Option swapEnL0fin.Y) : LCon := LCon.of Tryz.f310.ntmps [0, 1, 2, 3, 10] fT fU swapEnL0fin sp
def dO (v1 v2 v3 : Int) (st : Int × List En) : T ((Int × List En) ⊕ (List En)) :=
 let v4 := st.1
 let d := st.2
 bif decide (v4 < v3) then
 bif inR (w64 (v2 + v4)) d.length then
 bif inR (w64 (v1 + v4)) d.length then
 bif inR (w64 (v1 + v4)) d.length then
 bif inR (w64 (v2 + v4)) (wrE (EK.st SN.en) d (w64 (v1 + v4)) (rdE (EK.st SN.en) d (w64 (v2 + v4)))).length then
 .ret (Sum.inl (w64 (v4 + 1), wrE (EK.st SN.en) (wrE (EK.st SN.en) d (w64 (v1 + v4)) (rdE (EK.st SN.en) d (w64 (v2 + v4)))) (w64 (v2 + v4)) (rdE (EK.st SN.en) d (w64 (v1 + v4)))))
 else
 .bot
 else
 .bot
 else
 .bot
 else
 .bot
 else
 .ret (Sum.inr d)
@[reducible] def qX : PIf (VhL fT × OShL fU) swapEnL0fin.Y where
 α := List En
 tr x := T.loop (dO x.1.2.1 x.1.2.2.1 x.1.2.2.2.1) FU (x.1.2.2.2.2.1, x.2.1)
 enc x a := ((x.1.1, ()), (a, ()))
theorem aHk (sp_cmpEn : cmpEn_T) (v0 : Value) (v1 v2 v3 v4 : Int) (d : List En) : gY 1 Tryz.f310 0 [0, 1, 2, 3, 10] fT fU swapEnL0fin [(263, aT sp_cmpEn)] [] [] (((v0, v1, v2, v3, v4, ()), (d, ())) : VhL fT × OShL fU) = (bif decide (v4 < v3) then bif inR (w64 (v2 + v4)) d.length then bif inR (w64 (v1 + v4)) d.length then bif inR (w64 (v1 + v4)) d.length then bif inR (w64 (v2 + v4)) (wrE (EK.st SN.en) d (w64 (v1 + v4)) (rdE (EK.st SN.en) d (w64 (v2 + v4)))).length then some (Sum.inl ((v0, v1, v2, v3, w64 (v4 + 1), ()), wrE (EK.st SN.en) (wrE (EK.st SN.en) d (w64 (v1 + v4)) (rdE (EK.st SN.en) d (w64 (v2 + v4)))) (w64 (v2 + v4)) (rdE (EK.st SN.en) d (w64 (v1 + v4))), ())) else none else none else none else none
else some (Sum.inr ((v0, ()), d, ()))) := by kernel_rfl
theorem aLf : LOk Tryz.prog gl 1 (qW (PIf.spec qX)) (bE (body Tryz.f310) 0) := by
 refine lwk (Lc := []) (nh := []) (G := [(263, aT dC)]) (cJ (GOk.nil)) (aA (by kernel_rfl)) (Fin.one_ok _ _ _ _) ?_
 rintro ⟨⟨v0, v1, v2, v3, v4, _⟩, ⟨d, _⟩⟩ y hy
 refine ⟨_, aZ (eX := fun (st : Int × List En) => (let v4 := st.1; let d := st.2; ((v0, v1, v2, v3, v4, ()), (d, ())) : VhL fT × OShL fU)) (body := dO v1 v2 v3) (fun st =>?_) _ (v4, d) y hy⟩
 obtain ⟨v4, d⟩ := st
 refine (aHk ..).trans ?_
 unfold dO
 repeat' (first|refine aP (fun _ =>?_) (fun _ =>?_) | rfl)
def gV (a b n : Int) (d : List En) : T (List En) :=
 (T.loop (dO a b n) 4611686018427387904 (0, d)).bind fun x0 =>
 .ret x0
@[reducible] def bDu : PIf (VhL [.s (.ownC 0), vi, vi, vi, .clo 263 []] × OShL aY) (VhL [.s (.ownC 0)] × OShL aY) where
 α := List En
 tr x := gV x.1.2.1 x.1.2.2.1 x.1.2.2.2.1 x.2.1
 enc x a := ((x.1.1, ()), (a, ()))
@[reducible] def aAf : PIf (VhL [.s (.own 0), vi, vi, vi, .clo 263 []] × OShL aY) (VhL [] × OShL aY) where
 α := List En
 tr x := gV x.1.2.1 x.1.2.2.1 x.1.2.2.2.1 x.2.1
 enc x a := ((), (a, ()))
abbrev swapEn_T : Type := VhL [.s (.own 0), vi, vi, vi, .clo 263 []] × OShL aY → Option (VhL [] × OShL aY)
noncomputable abbrev nU (sp : swapEn_T) : Con := Con.fx [vi, vi, vi, .clo 263 []] aY [] aY sp
noncomputable abbrev aAg : swapEn_T := PIf.spec aAf
theorem aRi (p0 : cmpEn_T) (p1 : VhL fT × OShL fU → Option swapEnL0fin.Y) (c0 : Value) (a b n : Int) (d : List En) : vX Tryz.f310 [vi, vi, vi, .clo 263 []] aY [] aY [(263, aT p0)] [(1, qW p1)] [] (((c0, a, b, n, (), ()), (d, ())) : VhL [.s (.ownC 0), vi, vi, vi, .clo 263 []] × OShL aY) = ((p1 ((c0, a, b, n, 0, ()), d, ())).bind fun z => some ((z.1.1, ()), z.2.1, ())) := by kernel_rfl
theorem aYz : aK Tryz.prog gl 310 (nU aAg) := by
 refine cxk (I := bDu) (J := aAf) (fn := Tryz.f310) (G := [(263, aT dC)]) (cJ (GOk.nil)) (by kernel_rfl) (by kernel_rfl) (Lc := [(1, qW (PIf.spec qX))]) (nh := []) (bD (bs := [bE (body Tryz.f310) 0]) (by kernel_rfl) ⟨bB (q := (1, qW (PIf.spec qX))) (by kernel_rfl) aLf, trivial⟩) ?_ (fun c0 x o y h => by obtain ⟨a, h1, rfl⟩ := Option.map_eq_some_iff.1 h; exact Option.map_eq_some_iff.2 ⟨a, h1, rfl⟩)
 rintro ⟨⟨c0, a, b, n, _, _⟩, ⟨d, _⟩⟩
 refine (aRi ..).trans ?_
 show _ = ((gV a b n d).val).map _
 unfold gV
 repeat' (first|(refine cD (fun _ =>?_); try dsimp only [aH, cond_true, cond_false, Bool.not_true, Bool.not_false, one, mI, eV, qX]) | rfl)
theorem aLg {G : List (Nat × Con)} (h : GOk Tryz.prog gl G) : GOk Tryz.prog gl ((310, nU aAg) :: G) := GOk.cons ⟨Tryz.f310, body Tryz.f310, by kernel_rfl, by kernel_rfl, by kernel_rfl⟩ aYz h
abbrev jG : List Vh := [.s (.ownC 0), vi, .clo 263 [], vi, vi]
abbrev jH : List OSh := aY
noncomputable abbrev rotEnL0fin : Fin := (Fin.one 1 Tryz.f305.ntmps (.exit 0) [0, 2, 4, 10] [.s (.ownC 0), vi, .clo 263 [], vi] aY)
noncomputable abbrev tW (sp : VhL jG × OShL jH → Option rotEnL0fin.Y) : LCon := LCon.of Tryz.f305.ntmps [0, 2, 4, 10, 11] jG jH rotEnL0fin sp
def dH (v1 : Int) (st : Int × Int × List En) : T ((Int × Int × List En) ⊕ (Int × List En)) :=
 let v2 := st.1
 let v3 := st.2.1
 let d := st.2.2
 bif v2 != v3 then
 bif decide (v2 > v3) then
 (gV (w64 (v1 - v2)) v1 v3 d).bind fun x0 =>
 .ret (Sum.inl (w64 (v2 - v3), v3, x0))
 else
 (gV (w64 (v1 - v2)) (w64 (w64 (v1 + v3) - v2)) v2 d).bind fun x0 =>
 .ret (Sum.inl (v2, w64 (v3 - v2), x0))
 else
 .ret (Sum.inr (v2, d))
@[reducible] def tX : PIf (VhL jG × OShL jH) rotEnL0fin.Y where
 α := Int × List En
 tr x := T.loop (dH x.1.2.1) FU (x.1.2.2.2.1, x.1.2.2.2.2.1, x.2.1)
 enc x a := ((x.1.1, x.1.2.1, (), a.1, ()), (a.2, ()))
theorem aLh (sp_cmpEn : cmpEn_T) (sp_swapEn : swapEn_T) (v0 : Value) (v1 v2 v3 : Int) (d : List En) : gY 1 Tryz.f305 0 [0, 2, 4, 10, 11] jG jH rotEnL0fin [(263, aT sp_cmpEn), (310, nU sp_swapEn)] [] [] (((v0, v1, (), v2, v3, ()), (d, ())) : VhL jG × OShL jH) = (bif v2 != v3 then bif decide (v2 > v3) then (sp_swapEn (((), w64 (v1 - v2), v1, v3, (), ()), d, ())).bind fun val => some (Sum.inl ((v0, v1, (), w64 (v2 - v3), v3, ()), val.2.1, ())) else (sp_swapEn (((), w64 (v1 - v2), w64 (w64 (v1 + v3) - v2), v2, (), ()), d, ())).bind fun val => some (Sum.inl ((v0, v1, (), v2, w64 (v3 - v2), ()), val.2.1, ()))
else some (Sum.inr ((v0, v1, (), v2, ()), d, ()))) := by kernel_rfl
theorem aRj : LOk Tryz.prog gl 1 (tW (PIf.spec tX)) (bE (body Tryz.f305) 0) := by
 refine lwk (Lc := []) (nh := []) (G := [(263, aT dC), (310, nU aAg)]) (cJ (aLg (GOk.nil))) (aA (by kernel_rfl)) (Fin.one_ok _ _ _ _) ?_
 rintro ⟨⟨v0, v1, _, v2, v3, _⟩, ⟨d, _⟩⟩ y hy
 refine ⟨_, aZ (eX := fun (st : Int × Int × List En) => (let v2 := st.1; let v3 := st.2.1; let d := st.2.2; ((v0, v1, (), v2, v3, ()), (d, ())) : VhL jG × OShL jH)) (body := dH v1) (fun st =>?_) _ (v2, v3, d) y hy⟩
 obtain ⟨v2, v3, d⟩ := st
 refine (aLh ..).trans ?_
 unfold dH
 repeat' (first|refine aP (fun _ =>?_) (fun _ =>?_)|(refine cD (fun _ =>?_); try dsimp only [aH, cond_true, cond_false, Bool.not_true, Bool.not_false, one, mI, eV, aAf]) | rfl)
def lL (a m b : Int) (d : List En) : T (List En) :=
 (T.loop (dH m) 4611686018427387904 (w64 (m - a), w64 (b - m), d)).bind fun x0 =>
 (gV (w64 (m - x0.1)) m x0.1 x0.2).bind fun x1 =>
 .ret x1
@[reducible] def bIf : PIf (VhL [.s (.ownC 0), vi, vi, vi, .clo 263 []] × OShL aY) (VhL [.s (.ownC 0)] × OShL aY) where
 α := List En
 tr x := lL x.1.2.1 x.1.2.2.1 x.1.2.2.2.1 x.2.1
 enc x a := ((x.1.1, ()), (a, ()))
@[reducible] def wN : PIf (VhL [.s (.own 0), vi, vi, vi, .clo 263 []] × OShL aY) (VhL [] × OShL aY) where
 α := List En
 tr x := lL x.1.2.1 x.1.2.2.1 x.1.2.2.2.1 x.2.1
 enc x a := ((), (a, ()))
abbrev rotEn_T : Type := VhL [.s (.own 0), vi, vi, vi, .clo 263 []] × OShL aY → Option (VhL [] × OShL aY)
noncomputable abbrev dS (sp : rotEn_T) : Con := Con.fx [vi, vi, vi, .clo 263 []] aY [] aY sp
noncomputable abbrev qH : rotEn_T := PIf.spec wN
theorem aZa (p0 : cmpEn_T) (p1 : swapEn_T) (p2 : VhL jG × OShL jH → Option rotEnL0fin.Y) (c0 : Value) (a m b : Int) (d : List En) : vX Tryz.f305 [vi, vi, vi, .clo 263 []] aY [] aY [(263, aT p0), (310, nU p1)] [(2, tW p2)] [] (((c0, a, m, b, (), ()), (d, ())) : VhL [.s (.ownC 0), vi, vi, vi, .clo 263 []] × OShL aY) = ((p2 ((c0, m, (), w64 (m - a), w64 (b - m), ()), d, ())).bind fun z => (p1 (((), w64 (z.1.2.1 - z.1.2.2.2.1), z.1.2.1, z.1.2.2.2.1, (), ()), z.2.1, ())).bind fun z1 => some ((z.1.1, ()), z1.2.1, ())) := by kernel_rfl
theorem bDv : aK Tryz.prog gl 305 (dS qH) := by
 refine cxk (I := bIf) (J := wN) (fn := Tryz.f305) (G := [(263, aT dC), (310, nU aAg)]) (cJ (aLg (GOk.nil))) (by kernel_rfl) (by kernel_rfl) (Lc := [(2, tW (PIf.spec tX))]) (nh := []) (bD (bs := [bE (body Tryz.f305) 0]) (by kernel_rfl) ⟨bB (q := (2, tW (PIf.spec tX))) (by kernel_rfl) aRj, trivial⟩) ?_ (fun c0 x o y h => by obtain ⟨a, h1, rfl⟩ := Option.map_eq_some_iff.1 h; exact Option.map_eq_some_iff.2 ⟨a, h1, rfl⟩)
 rintro ⟨⟨c0, a, m, b, _, _⟩, ⟨d, _⟩⟩
 refine (aZa ..).trans ?_
 show _ = ((lL a m b d).val).map _
 unfold lL
 repeat' (first|(refine cD (fun _ =>?_); try dsimp only [aH, cond_true, cond_false, Bool.not_true, Bool.not_false, one, mI, eV, aAf, tX]) | rfl)
theorem qY {G : List (Nat × Con)} (h : GOk Tryz.prog gl G) : GOk Tryz.prog gl ((305, dS qH) :: G) := GOk.cons ⟨Tryz.f305, body Tryz.f305, by kernel_rfl, by kernel_rfl, by kernel_rfl⟩ bDv h
abbrev gL : List Vh := [.s (.ownC 0), vi, vi, .clo 263 [], vi, vi]
abbrev gM : List OSh := aY
noncomputable abbrev insEnL1fin : Fin := (Fin.one 1 Tryz.f298.ntmps (.exit 2) [0, 1, 2, 3, 8] [.s (.ownC 0), vi, vi, .clo 263 [], vi] aY)
noncomputable abbrev mL (sp : VhL gL × OShL gM → Option insEnL1fin.Y) : LCon := LCon.of Tryz.f298.ntmps [0, 1, 2, 3, 8, 9] gL gM insEnL1fin sp
def dI (v1 v2 v3 : Int) (st : Int × List En) : T ((Int × List En) ⊕ (List En)) :=
 let v4 := st.1
 let d := st.2
 bif decide (v4 > v1) then
 bif inR v4 d.length then
 bif inR (w64 (v4 - 1)) d.length then
 (lJ (rdE (EK.st SN.en) d v4) (rdE (EK.st SN.en) d (w64 (v4 - 1)))).bind fun x0 =>
 bif decide (x0 < 0) then
 bif inR (w64 (v4 - 1)) d.length then
 bif inR v4 d.length then
 bif inR v4 d.length then
 bif inR (w64 (v4 - 1)) (wrE (EK.st SN.en) d v4 (rdE (EK.st SN.en) d (w64 (v4 - 1)))).length then
 .ret (Sum.inl (w64 (v4 - 1), wrE (EK.st SN.en) (wrE (EK.st SN.en) d v4 (rdE (EK.st SN.en) d (w64 (v4 - 1)))) (w64 (v4 - 1)) (rdE (EK.st SN.en) d v4)))
 else
 .bot
 else
 .bot
 else
 .bot
 else
 .bot
 else
 .ret (Sum.inr d)
 else
 .bot
 else
 .bot
 else
 .ret (Sum.inr d)
@[reducible] def mM : PIf (VhL gL × OShL gM) insEnL1fin.Y where
 α := List En
 tr x := T.loop (dI x.1.2.1 x.1.2.2.1 x.1.2.2.2.2.1) FU (x.1.2.2.2.2.2.1, x.2.1)
 enc x a := ((x.1.1, x.1.2.1, x.1.2.2.1, (), x.1.2.2.2.2.1, ()), (a, ()))
theorem aLi (sp_cmpEn : cmpEn_T) (v0 : Value) (v1 v2 v3 v4 : Int) (d : List En) : gY 1 Tryz.f298 1 [0, 1, 2, 3, 8, 9] gL gM insEnL1fin [(263, aT sp_cmpEn)] [] [] (((v0, v1, v2, (), v3, v4, ()), (d, ())) : VhL gL × OShL gM) = (bif decide (v4 > v1) then bif inR v4 d.length then bif inR (w64 (v4 - 1)) d.length then (sp_cmpEn ((rdE (EK.st SN.en) d v4, rdE (EK.st SN.en) d (w64 (v4 - 1)), ()), ())).bind fun val => bif decide (val.1.1 < 0) then bif inR (w64 (v4 - 1)) d.length then bif inR v4 d.length then bif inR v4 d.length then bif inR (w64 (v4 - 1)) (wrE (EK.st SN.en) d v4 (rdE (EK.st SN.en) d (w64 (v4 - 1)))).length then some (Sum.inl ((v0, v1, v2, (), v3, w64 (v4 - 1), ()), wrE (EK.st SN.en) (wrE (EK.st SN.en) d v4 (rdE (EK.st SN.en) d (w64 (v4 - 1)))) (w64 (v4 - 1)) (rdE (EK.st SN.en) d v4), ())) else none else none else none else none else some (Sum.inr ((v0, v1, v2, (), v3, ()), d, ())) else none else none
else some (Sum.inr ((v0, v1, v2, (), v3, ()), d, ()))) := by kernel_rfl
theorem aCs : LOk Tryz.prog gl 1 (mL (PIf.spec mM)) (bE (body Tryz.f298) 1) := by
 refine lwk (Lc := []) (nh := []) (G := [(263, aT dC)]) (cJ (GOk.nil)) (aA (by kernel_rfl)) (Fin.one_ok _ _ _ _) ?_
 rintro ⟨⟨v0, v1, v2, _, v3, v4, _⟩, ⟨d, _⟩⟩ y hy
 refine ⟨_, aZ (eX := fun (st : Int × List En) => (let v4 := st.1; let d := st.2; ((v0, v1, v2, (), v3, v4, ()), (d, ())) : VhL gL × OShL gM)) (body := dI v1 v2 v3) (fun st =>?_) _ (v4, d) y hy⟩
 obtain ⟨v4, d⟩ := st
 refine (aLi ..).trans ?_
 unfold dI
 repeat' (first|refine aP (fun _ =>?_) (fun _ =>?_)|(refine cD (fun _ =>?_); try dsimp only [aH, cond_true, cond_false, Bool.not_true, Bool.not_false, one, mI, eV]) | rfl)
abbrev jI : List Vh := [.s (.ownC 0), vi, vi, .clo 263 [], vi]
abbrev jJ : List OSh := aY
noncomputable abbrev insEnL0fin : Fin := (Fin.one 1 Tryz.f298.ntmps (.exit 0) [0] [.s (.ownC 0)] aY)
noncomputable abbrev tY (sp : VhL jI × OShL jJ → Option insEnL0fin.Y) : LCon := LCon.of Tryz.f298.ntmps [0, 1, 2, 3, 8] jI jJ insEnL0fin sp
def cR (v1 v2 : Int) (st : Int × List En) : T ((Int × List En) ⊕ (List En)) :=
 let v3 := st.1
 let d := st.2
 bif decide (v3 < v2) then
 (T.loop (dI v1 v2 v3) 4611686018427387904 (v3, d)).bind fun x0 =>
 .ret (Sum.inl (w64 (v3 + 1), x0))
 else
 .ret (Sum.inr d)
@[reducible] def tZ : PIf (VhL jI × OShL jJ) insEnL0fin.Y where
 α := List En
 tr x := T.loop (cR x.1.2.1 x.1.2.2.1) FU (x.1.2.2.2.2.1, x.2.1)
 enc x a := ((x.1.1, ()), (a, ()))
theorem aLj (sp_cmpEn : cmpEn_T) (sp_insEnL1 : VhL gL × OShL gM → Option insEnL1fin.Y) (v0 : Value) (v1 v2 v3 : Int) (d : List En) : gY 1 Tryz.f298 0 [0, 1, 2, 3, 8] jI jJ insEnL0fin [(263, aT sp_cmpEn)] [(4, mL sp_insEnL1)] [] (((v0, v1, v2, (), v3, ()), (d, ())) : VhL jI × OShL jJ) = (bif decide (v3 < v2) then (sp_insEnL1 ((v0, v1, v2, (), v3, v3, ()), d, ())).bind fun val => some (Sum.inl ((val.1.1, val.1.2.1, val.1.2.2.1, (), w64 (val.1.2.2.2.2.1 + 1), ()), val.2.1, ()))
else some (Sum.inr ((v0, ()), d, ()))) := by kernel_rfl
theorem aRk : LOk Tryz.prog gl 1 (tY (PIf.spec tZ)) (bE (body Tryz.f298) 0) := by
 refine lwk (Lc := [(4, mL (PIf.spec mM))]) (nh := []) (G := [(263, aT dC)]) (cJ (GOk.nil)) (bD (bs := [bE (body Tryz.f298) 1]) (by kernel_rfl) ⟨bB (q := (4, mL (PIf.spec mM))) (by kernel_rfl) aCs, trivial⟩) (Fin.one_ok _ _ _ _) ?_
 rintro ⟨⟨v0, v1, v2, _, v3, _⟩, ⟨d, _⟩⟩ y hy
 refine ⟨_, aZ (eX := fun (st : Int × List En) => (let v3 := st.1; let d := st.2; ((v0, v1, v2, (), v3, ()), (d, ())) : VhL jI × OShL jJ)) (body := cR v1 v2) (fun st =>?_) _ (v3, d) y hy⟩
 obtain ⟨v3, d⟩ := st
 refine (aLj ..).trans ?_
 unfold cR
 repeat' (first|refine aP (fun _ =>?_) (fun _ =>?_)|(refine cD (fun _ =>?_); try dsimp only [aH, cond_true, cond_false, Bool.not_true, Bool.not_false, one, mI, eV, mM]) | rfl)
def nI (a b : Int) (d : List En) : T (List En) :=
 (T.loop (cR a b) 4611686018427387904 (w64 (a + 1), d)).bind fun x0 =>
 .ret x0
@[reducible] def bIg : PIf (VhL [.s (.ownC 0), vi, vi, .clo 263 []] × OShL aY) (VhL [.s (.ownC 0)] × OShL aY) where
 α := List En
 tr x := nI x.1.2.1 x.1.2.2.1 x.2.1
 enc x a := ((x.1.1, ()), (a, ()))
@[reducible] def wO : PIf (VhL [.s (.own 0), vi, vi, .clo 263 []] × OShL aY) (VhL [] × OShL aY) where
 α := List En
 tr x := nI x.1.2.1 x.1.2.2.1 x.2.1
 enc x a := ((), (a, ()))
abbrev insEn_T : Type := VhL [.s (.own 0), vi, vi, .clo 263 []] × OShL aY → Option (VhL [] × OShL aY)
noncomputable abbrev kD (sp : insEn_T) : Con := Con.fx [vi, vi, .clo 263 []] aY [] aY sp
noncomputable abbrev wP : insEn_T := PIf.spec wO
theorem aZb (p0 : cmpEn_T) (p1 : VhL gL × OShL gM → Option insEnL1fin.Y) (p2 : VhL jI × OShL jJ → Option insEnL0fin.Y) (c0 : Value) (a b : Int) (d : List En) : vX Tryz.f298 [vi, vi, .clo 263 []] aY [] aY [(263, aT p0)] [(4, mL p1), (1, tY p2)] [] (((c0, a, b, (), ()), (d, ())) : VhL [.s (.ownC 0), vi, vi, .clo 263 []] × OShL aY) = ((p2 ((c0, a, b, (), w64 (a + 1), ()), d, ())).bind fun z => some ((z.1.1, ()), z.2.1, ())) := by kernel_rfl
theorem bDw : aK Tryz.prog gl 298 (kD wP) := by
 refine cxk (I := bIg) (J := wO) (fn := Tryz.f298) (G := [(263, aT dC)]) (cJ (GOk.nil)) (by kernel_rfl) (by kernel_rfl) (Lc := [(4, mL (PIf.spec mM)), (1, tY (PIf.spec tZ))]) (nh := []) (bD (bs := [bE (body Tryz.f298) 0, bE (body Tryz.f298) 1]) (by kernel_rfl) ⟨bB (q := (1, tY (PIf.spec tZ))) (by kernel_rfl) aRk, bB (q := (4, mL (PIf.spec mM))) (by kernel_rfl) aCs, trivial⟩) ?_ (fun c0 x o y h => by obtain ⟨a, h1, rfl⟩ := Option.map_eq_some_iff.1 h; exact Option.map_eq_some_iff.2 ⟨a, h1, rfl⟩)
 rintro ⟨⟨c0, a, b, _, _⟩, ⟨d, _⟩⟩
 refine (aZb ..).trans ?_
 show _ = ((nI a b d).val).map _
 unfold nI
 repeat' (first|(refine cD (fun _ =>?_); try dsimp only [aH, cond_true, cond_false, Bool.not_true, Bool.not_false, one, mI, eV, mM, tZ]) | rfl)
theorem aAh {G : List (Nat × Con)} (h : GOk Tryz.prog gl G) : GOk Tryz.prog gl ((298, kD wP) :: G) := GOk.cons ⟨Tryz.f298, body Tryz.f298, by kernel_rfl, by kernel_rfl, by kernel_rfl⟩ bDw h
end Go.Ax.Cd
