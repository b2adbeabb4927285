/- Merged. -/
import Derived.Test.YteoeolfcpmalfaaGreatDoorQ23
import Derived.Test.YteoeolfcpmalfaaGreatDoorQ21
namespace Go.Ax.Cd
set_option linter.unusedVariables false
set_option maxRecDepth 100000
namespace SPr
inductive Blk (s : Nat) : List Pr → Prop
 | last (l : List Pr) : l.length ≤ s → Srt ky l → Blk s l
 | cons (c l : List Pr) : c.length = s → Srt ky c → Blk s l → Blk s (c ++ l)
theorem Blk.srt {s : Nat} {l : List Pr} (h : Blk s l) (hl : l.length ≤ s) : Srt ky l := by
 cases h with
 | last _ h1 h2 => exact h2
 | cons c l' h1 h2 h3 =>
  have : l' = [] := by
   rw [← List.length_eq_zero_iff]
   simp at hl
   omega
  subst this
  rw [List.append_nil]
  exact h2
theorem Blk.two {s : Nat} {l : List Pr} (h : Blk s l) (hl : s < l.length) : ∃ c R, l = c ++ R ∧ c.length = s ∧ Srt ky c ∧ Blk s R := by
 cases h with
 | last _ h1 h2 => omega
 | cons c l' h1 h2 h3 => exact ⟨c, l', rfl, h1, h2, h3⟩
theorem first_loop {n : Int} : ∀ (k : Nat) (R D : List Pr), n = D.length + R.length → (D ++ R).length ≤ 1000000 → R.length < k →
  ∃ F R2, (T.loop (stabVPrL0Step n 20) k ((D.length : Int), (D.length : Int) + 20, D ++ R)).val = some (((D.length + F.length : Nat) : Int), D ++ F ++ R2) ∧ R2.length < 20 ∧ SE ky (F ++ R2) R ∧ (∀ X, Blk 20 X → Blk 20 (F ++ X))
 | 0, R, D, hn, hs, hk => by omega
 | k + 1, R, D, hn, hs, hk => by
  simp only [List.length_append] at hs
  by_cases c : R.length < 20
  ·refine ⟨[], R, loop_end ?_, c, SE.refl _, fun X h => h⟩
   have c1 : ¬ ((D.length : Int) + 20 ≤ n) := by omega
   simp [stabVPrL0Step, c1, T.val_ret]
  ·obtain ⟨C, R, rfl, hC⟩ : ∃ C R', R = C ++ R' ∧ C.length = 20 := ⟨R.take 20, R.drop 20, by simp, by simp; omega⟩
   simp only [List.length_append] at hs hn hk
   have c1 : (D.length : Int) + 20 ≤ n := by omega
   have hv := ins_val (a := (D.length : Int)) (b := (D.length : Int) + 20) D C R rfl (by omega) (by simp; omega)
   have lI : (isort ky C).length = 20 := by rw [isort_len, hC]
   obtain ⟨F, R2, k1, k2, k3, k4⟩ := first_loop (n := n) k R (D ++ isort ky C) (by simp [lI]; omega) (by simp [lI]; omega) (by omega)
   have e1 : w64 ((D.length : Int) + 20 + 20) = ((D ++ isort ky C).length : Int) + 20 := by rw [w64_id] <;> (try simp [lI]) <;> omega
   have e2 : ((D ++ isort ky C).length : Int) = (D.length : Int) + 20 := by simp [lI]
   refine ⟨isort ky C ++ F, R2, loop_step (s' := (((D ++ isort ky C).length : Int), ((D ++ isort ky C).length : Int) + 20, D ++ isort ky C ++ R)) ?_ (k1.trans ?_), k2, ?_, fun X h =>?_⟩
   ·simp only [stabVPrL0Step, c1, decide_true, cond_true, T.val_bind]
    rw [show D ++ (C ++ R) = D ++ C ++ R by simp, hv]
    simp only [Option.bind_some, T.val_ret, e1]
    rw [e2]
   ·simp
    omega
   ·rw [List.append_assoc]
    exact SE.append (isort_SE C) k3
   ·rw [List.append_assoc]
    exact .cons _ _ lI (isort_srt C) (k4 X h)
theorem pass_loop {n : Int} {s : Nat} (h0 : 0 < s) (hs1 : s ≤ 1000000) : ∀ (k : Nat) (R D : List Pr), Blk s R → n = D.length + R.length → (D ++ R).length ≤ 1000000 → R.length < k →
  ∃ F R2, (T.loop (stabVPrL2Step n (s : Int)) k ((D.length : Int), (D.length : Int) + 2 * s, D ++ R)).val = some (((D.length + F.length : Nat) : Int), D ++ F ++ R2) ∧ R2.length < 2 * s ∧ Blk s R2 ∧ SE ky (F ++ R2) R ∧ (∀ X, Blk (2 * s) X → Blk (2 * s) (F ++ X))
 | 0, R, D, hR, hn, hs, hk => by omega
 | k + 1, R, D, hR, hn, hs, hk => by
  simp only [List.length_append] at hs
  by_cases c : R.length < 2 * s
  ·refine ⟨[], R, loop_end ?_, c, hR, SE.refl _, fun X h => h⟩
   have c1 : ¬ ((D.length : Int) + 2 * s ≤ n) := by omega
   simp [stabVPrL2Step, c1, T.val_ret]
  ·obtain ⟨C1, R1, rfl, hC1, sC1, hR1⟩ := hR.two (by omega)
   simp only [List.length_append] at hs hn hk c
   obtain ⟨C2, R, rfl, hC2, sC2, hR⟩ : ∃ C2 R', R1 = C2 ++ R' ∧ C2.length = s ∧ Srt ky C2 ∧ Blk s R' := by
    by_cases c2 : R1.length ≤ s
    ·exact ⟨R1, [], by simp, by omega, hR1.srt c2, .last [] (by simp) (by simp [Srt])⟩
    ·exact hR1.two (by omega)
   simp only [List.length_append] at hs hn hk c
   have c1 : (D.length : Int) + 2 * s ≤ n := by omega
   have e0 : w64 ((D.length : Int) + (s : Int)) = (D.length : Int) + (s : Int) := by rw [w64_id] <;> omega
   have hv := sortM_val (P := D) (U := C1) (V := C2) (Q := R) (a := (D.length : Int)) (m := w64 ((D.length : Int) + (s : Int))) (b := (D.length : Int) + 2 * s) (by omega) (by omega) sC1 sC2 rfl (by rw [e0]; omega) (by omega) (by simp; omega)
   have lI : (isort ky (C1 ++ C2)).length = 2 * s := by rw [isort_len]; simp; omega
   obtain ⟨F, R2, k1, k2, k2', k3, k4⟩ := pass_loop (n := n) h0 hs1 k R (D ++ isort ky (C1 ++ C2)) hR (by simp [lI]; omega) (by simp [lI]; omega) (by omega)
   have e3 : w64 (2 * (s : Int)) = 2 * s := by rw [w64_id] <;> omega
   have e1 : w64 ((D.length : Int) + 2 * s + w64 (2 * (s : Int))) = ((D ++ isort ky (C1 ++ C2)).length : Int) + 2 * s := by rw [e3, w64_id] <;> (try simp [lI]) <;> omega
   have e2 : ((D ++ isort ky (C1 ++ C2)).length : Int) = (D.length : Int) + 2 * s := by simp [lI]
   refine ⟨isort ky (C1 ++ C2) ++ F, R2, loop_step (s' := (((D ++ isort ky (C1 ++ C2)).length : Int), ((D ++ isort ky (C1 ++ C2)).length : Int) + 2 * s, D ++ isort ky (C1 ++ C2) ++ R)) ?_ (k1.trans ?_), k2, k2', ?_, fun X h =>?_⟩
   ·simp only [stabVPrL2Step, c1, decide_true, cond_true, T.val_bind]
    rw [show D ++ (C1 ++ (C2 ++ R)) = D ++ C1 ++ C2 ++ R by simp, hv]
    simp only [Option.bind_some, T.val_ret, e1]
    rw [e2]
   ·simp
    omega
   ·rw [List.append_assoc, show C1 ++ (C2 ++ R) = (C1 ++ C2) ++ R by simp]
    exact SE.append (isort_SE _) k3
   ·rw [List.append_assoc]
    exact .cons _ _ lI (isort_srt _) (k4 X h)
theorem outer_loop {n : Int} : ∀ (k : Nat) (s : Nat) (d : List Pr), 0 < s → s ≤ 2000000 → Blk s d → n = d.length → d.length ≤ 1000000 → d.length < s + k →
  ∃ d', (T.loop (stabVPrL1Step n) (k + 1) ((s : Int), d)).val = some d' ∧ Srt ky d' ∧ SE ky d' d
 | 0, s, d, h0, hs1, hd, hn, hs, hk => by
  refine ⟨d, loop_end ?_, hd.srt (by omega), SE.refl _⟩
  have c1 : ¬ ((s : Int) < n) := by omega
  simp [stabVPrL1Step, c1, T.val_ret]
 | k + 1, s, d, h0, hs1, hd, hn, hs, hk => by
  by_cases c : (s : Int) < n
  ·obtain ⟨F, R2, k1, k2, k2', k3, k4⟩ := pass_loop (n := n) (s := s) h0 (by omega) 4611686018427387904 d [] hd (by simpa using hn) (by simpa using hs) (by omega)
   have hlen : F.length + R2.length = d.length := by
    have h1 := isort_len (key := ky) (F ++ R2)
    rw [isort_of_SE k3, isort_len] at h1
    simp at h1
    omega
   have e3 : w64 (2 * (s : Int)) = 2 * s := by rw [w64_id] <;> omega
   have e4 : w64 ((s : Int) * 2) = ((2 * s : Nat) : Int) := by rw [w64_id] <;> omega
   simp only [List.length_nil, Int.ofNat_zero, Nat.zero_add, List.nil_append, Int.zero_add] at k1
   have k1' : (T.loop (stabVPrL2Step n (s : Int)) 4611686018427387904 (0, w64 (2 * (s : Int)), d)).val = some ((F.length : Int), F ++ R2) := by rw [e3]; exact k1
   have e5 : w64 ((F.length : Int) + (s : Int)) = (F.length : Int) + (s : Int) := by rw [w64_id] <;> omega
   by_cases c2 : (F.length : Int) + (s : Int) < n
   ·obtain ⟨C1, R, rfl, hC1, sC1, hR⟩ := k2'.two (by omega)
    simp only [List.length_append] at hlen k2
    have sR := hR.srt (by omega)
    have hv := sortM_val (P := F) (U := C1) (V := R) (Q := []) (a := (F.length : Int)) (m := (F.length : Int) + (s : Int)) (b := n) (by omega) (by omega) sC1 sR rfl (by omega) (by omega) (by simp; omega)
    obtain ⟨d', j1, j2, j3⟩ := outer_loop (n := n) k (2 * s) (F ++ isort ky (C1 ++ R)) (by omega) (by omega) (k4 _ (.last _ (by rw [isort_len]; simp; omega) (isort_srt _))) (by simp [isort_len]; omega) (by simp [isort_len]; omega) (by simp [isort_len]; omega)
    refine ⟨d', loop_step (s' := (((2 * s : Nat) : Int), F ++ isort ky (C1 ++ R))) ?_ j1, j2, j3.trans ((SE.append (SE.refl F) (isort_SE _)).trans k3)⟩
    simp only [stabVPrL1Step, c, decide_true, cond_true, T.val_bind, k1', Option.bind_some, e5, c2]
    rw [show F ++ (C1 ++ R) = F ++ C1 ++ R ++ [] by simp, hv]
    simp only [Option.bind_some, T.val_ret, e4]
    simp
   ·have sR := k2'.srt (by omega)
    obtain ⟨d', j1, j2, j3⟩ := outer_loop (n := n) k (2 * s) (F ++ R2) (by omega) (by omega) (k4 _ (.last _ (by omega) sR)) (by simp; omega) (by simp; omega) (by simp; omega)
    refine ⟨d', loop_step (s' := (((2 * s : Nat) : Int), F ++ R2)) ?_ j1, j2, j3.trans k3⟩
    simp only [stabVPrL1Step, c, decide_true, cond_true, T.val_bind, k1', Option.bind_some, e5, c2, decide_false, cond_false, T.val_ret, e4]
  ·refine ⟨d, loop_end ?_, hd.srt (by omega), SE.refl _⟩
   simp [stabVPrL1Step, c, T.val_ret]
theorem stab_val (d : List Pr) (hs : d.length ≤ 1000000) : (stabWPrTr d).val = some (isort ky d) := by
 have key : (stabVPrTr (Int.ofNat d.length) d).val = some (isort ky d) := by
  obtain ⟨F, R2, k1, k2, k3, k4⟩ := first_loop (n := Int.ofNat d.length) 4611686018427387904 d [] (by simp) (by simpa using hs) (by omega)
  have hlen : F.length + R2.length = d.length := by
   have h1 := isort_len (key := ky) (F ++ R2)
   rw [isort_of_SE k3, isort_len] at h1
   simp at h1
   omega
  simp only [List.length_nil, Int.ofNat_zero, Nat.zero_add, List.nil_append, Int.zero_add] at k1
  have hv := ins_val (a := (F.length : Int)) (b := Int.ofNat d.length) F R2 [] rfl (by simp; omega) (by simp; omega)
  simp only [List.append_nil] at hv
  have hl2 : (F ++ isort ky R2).length = d.length := by simp [isort_len]; omega
  obtain ⟨d', j1, j2, j3⟩ := outer_loop (n := Int.ofNat d.length) 4611686018427387903 20 (F ++ isort ky R2) (by omega) (by omega) (k4 _ (.last _ (by rw [isort_len]; omega) (isort_srt _))) (by rw [hl2]; rfl) (by omega) (by omega)
  have hd' : d' = isort ky d := isort_eq j2 (j3.trans ((SE.append (SE.refl F) (isort_SE _)).trans k3))
  unfold stabVPrTr
  rw [T.val_bind, k1, Option.bind_some]
  simp only [T.val_bind, hv, Option.bind_some]
  have j1' : (T.loop (stabVPrL1Step (Int.ofNat d.length)) 4611686018427387904 (20, F ++ isort ky R2)).val = some d' := j1
  rw [j1', hd']
  rfl
 unfold stabWPrTr
 rw [T.val_bind, key]
 rfl
end SPr
open Go.Proofs
abbrev cdw1q0 : List OSh := [.arr (.st .en)]
def cmpEnTr (a b : En) : T (Int) :=
 (cmpITr a.edge b.edge).bind fun x0 =>
 .ret x0
@[reducible] def cmpEnI : PIf (VhL [.s (.e (.st .en)), .s (.e (.st .en))] × OShL []) (VhL [vi] × OShL []) where
 α := Int
 tr x := cmpEnTr x.1.1 x.1.2.1
 enc x a := ((a, ()), ())
abbrev cmpEn_T : Type := VhL [.s (.e (.st .en)), .s (.e (.st .en))] × OShL [] → Option (VhL [vi] × OShL [])
noncomputable abbrev cmpEn_C (sp : cmpEn_T) : Con := Con.of [.s (.e (.st .en)), .s (.e (.st .en))] [] [vi] [] sp
noncomputable abbrev cmpEnS : cmpEn_T := PIf.spec cmpEnI
theorem cmpEn_raw (p0 : cmpI_T) (a b : En) : runN Tryz.f98 [.s (.e (.st .en)), .s (.e (.st .en))] [] [vi] [] [(94, cmpI_C p0)] [] [] (((a, b, ()), ()) : VhL [.s (.e (.st .en)), .s (.e (.st .en))] × OShL []) = ((p0 ((a.edge, b.edge, ()), ())).bind fun z => some ((z.1.1, ()), ())) := by kernel_rfl
theorem cmpEn_ok : Sound Tryz.prog gl 98 (cmpEn_C cmpEnS) := by
 refine cnk (fn := Tryz.f98) (G := [(94, cmpI_C cmpIS)]) (cmpI_k (GOk.nil)) (by kernel_rfl) (by kernel_rfl) (Lc := []) (nh := []) (noloopN (by kernel_rfl)) ?_
 rintro ⟨⟨a, b, _⟩, _⟩
 refine (cmpEn_raw ..).trans ?_
 show _ = ((cmpEnTr a b).val).map _
 unfold cmpEnTr
 repeat' (first|(refine bindP (fun _ =>?_); try dsimp only [selim, cond_true, cond_false, Bool.not_true, Bool.not_false, one, mI, cmpII]) | rfl)
theorem cmpEn_k {G : List (Nat × Con)} (h : GOk Tryz.prog gl G) : GOk Tryz.prog gl ((98, cmpEn_C cmpEnS) :: G) := GOk.cons ⟨Tryz.f98, body Tryz.f98, by kernel_rfl, by kernel_rfl, by kernel_rfl⟩ cmpEn_ok h
abbrev swapEnL0vs : List Vh := [.s (.ownC 0), vi, vi, vi, vi]
abbrev swapEnL0os : List OSh := cdw1q0
noncomputable abbrev swapEnL0fin : Fin := (Fin.one 1 Tryz.f135.ntmps (.exit 0) [0] [.s (.ownC 0)] cdw1q0)
noncomputable abbrev swapEnL0Q (sp : VhL swapEnL0vs × OShL swapEnL0os → Option swapEnL0fin.Y) : LCon := LCon.of Tryz.f135.ntmps [0, 1, 2, 3, 10] swapEnL0vs swapEnL0os swapEnL0fin sp
def swapEnL0Step (v1 v2 v3 : Int) (st : Int × List En) : T ((Int × List En) ⊕ (List En)) :=
 let v4 := st.1
 let d := st.2
 bif decide (v4 < v3) then
 bif inR (w64 (v2 + v4)) d.length then
 bif inR (w64 (v1 + v4)) d.length then
 bif inR (w64 (v1 + v4)) d.length then
 bif inR (w64 (v2 + v4)) (wrE (EK.st SN.en) d (w64 (v1 + v4)) (rdE (EK.st SN.en) d (w64 (v2 + v4)))).length then
 .ret (Sum.inl (w64 (v4 + 1), wrE (EK.st SN.en) (wrE (EK.st SN.en) d (w64 (v1 + v4)) (rdE (EK.st SN.en) d (w64 (v2 + v4)))) (w64 (v2 + v4)) (rdE (EK.st SN.en) d (w64 (v1 + v4)))))
 else
 .bot
 else
 .bot
 else
 .bot
 else
 .bot
 else
 .ret (Sum.inr d)
@[reducible] def swapEnL0I : PIf (VhL swapEnL0vs × OShL swapEnL0os) swapEnL0fin.Y where
 α := List En
 tr x := T.loop (swapEnL0Step x.1.2.1 x.1.2.2.1 x.1.2.2.2.1) FU (x.1.2.2.2.2.1, x.2.1)
 enc x a := ((x.1.1, ()), (a, ()))
theorem swapEnL0_raw (sp_cmpEn : cmpEn_T) (v0 : Value) (v1 v2 v3 v4 : Int) (d : List En) : runW 1 Tryz.f135 0 [0, 1, 2, 3, 10] swapEnL0vs swapEnL0os swapEnL0fin [(98, cmpEn_C sp_cmpEn)] [] [] (((v0, v1, v2, v3, v4, ()), (d, ())) : VhL swapEnL0vs × OShL swapEnL0os) = (bif decide (v4 < v3) then bif inR (w64 (v2 + v4)) d.length then bif inR (w64 (v1 + v4)) d.length then bif inR (w64 (v1 + v4)) d.length then bif inR (w64 (v2 + v4)) (wrE (EK.st SN.en) d (w64 (v1 + v4)) (rdE (EK.st SN.en) d (w64 (v2 + v4)))).length then some (Sum.inl ((v0, v1, v2, v3, w64 (v4 + 1), ()), wrE (EK.st SN.en) (wrE (EK.st SN.en) d (w64 (v1 + v4)) (rdE (EK.st SN.en) d (w64 (v2 + v4)))) (w64 (v2 + v4)) (rdE (EK.st SN.en) d (w64 (v1 + v4))), ())) else none else none else none else none
else some (Sum.inr ((v0, ()), d, ()))) := by kernel_rfl
theorem swapEnL0_ok : LOk Tryz.prog gl 1 (swapEnL0Q (PIf.spec swapEnL0I)) (getL (body Tryz.f135) 0) := by
 refine lwk (Lc := []) (nh := []) (G := [(98, cmpEn_C cmpEnS)]) (cmpEn_k (GOk.nil)) (noloopN (by kernel_rfl)) (Fin.one_ok _ _ _ _) ?_
 rintro ⟨⟨v0, v1, v2, v3, v4, _⟩, ⟨d, _⟩⟩ y hy
 refine ⟨_, loopP_ok (eX := fun (st : Int × List En) => (let v4 := st.1; let d := st.2; ((v0, v1, v2, v3, v4, ()), (d, ())) : VhL swapEnL0vs × OShL swapEnL0os)) (body := swapEnL0Step v1 v2 v3) (fun st =>?_) _ (v4, d) y hy⟩
 obtain ⟨v4, d⟩ := st
 refine (swapEnL0_raw ..).trans ?_
 unfold swapEnL0Step
 repeat' (first|refine cond_outP (fun _ =>?_) (fun _ =>?_) | rfl)
def swapEnTr (a b n : Int) (d : List En) : T (List En) :=
 (T.loop (swapEnL0Step a b n) 4611686018427387904 (0, d)).bind fun x0 =>
 .ret x0
@[reducible] def swapEnCI : PIf (VhL [.s (.ownC 0), vi, vi, vi, .clo 98 []] × OShL cdw1q0) (VhL [.s (.ownC 0)] × OShL cdw1q0) where
 α := List En
 tr x := swapEnTr x.1.2.1 x.1.2.2.1 x.1.2.2.2.1 x.2.1
 enc x a := ((x.1.1, ()), (a, ()))
@[reducible] def swapEnI : PIf (VhL [.s (.own 0), vi, vi, vi, .clo 98 []] × OShL cdw1q0) (VhL [] × OShL cdw1q0) where
 α := List En
 tr x := swapEnTr x.1.2.1 x.1.2.2.1 x.1.2.2.2.1 x.2.1
 enc x a := ((), (a, ()))
abbrev swapEn_T : Type := VhL [.s (.own 0), vi, vi, vi, .clo 98 []] × OShL cdw1q0 → Option (VhL [] × OShL cdw1q0)
noncomputable abbrev swapEn_C (sp : swapEn_T) : Con := Con.fx [vi, vi, vi, .clo 98 []] cdw1q0 [] cdw1q0 sp
noncomputable abbrev swapEnS : swapEn_T := PIf.spec swapEnI
theorem swapEn_raw (p0 : cmpEn_T) (p1 : VhL swapEnL0vs × OShL swapEnL0os → Option swapEnL0fin.Y) (c0 : Value) (a b n : Int) (d : List En) : runX Tryz.f135 [vi, vi, vi, .clo 98 []] cdw1q0 [] cdw1q0 [(98, cmpEn_C p0)] [(1, swapEnL0Q p1)] [] (((c0, a, b, n, (), ()), (d, ())) : VhL [.s (.ownC 0), vi, vi, vi, .clo 98 []] × OShL cdw1q0) = ((p1 ((c0, a, b, n, 0, ()), d, ())).bind fun z => some ((z.1.1, ()), z.2.1, ())) := by kernel_rfl
theorem swapEn_ok : Sound Tryz.prog gl 135 (swapEn_C swapEnS) := by
 refine cxk (I := swapEnCI) (J := swapEnI) (fn := Tryz.f135) (G := [(98, cmpEn_C cmpEnS)]) (cmpEn_k (GOk.nil)) (by kernel_rfl) (by kernel_rfl) (Lc := [(1, swapEnL0Q (PIf.spec swapEnL0I))]) (nh := []) (lcok (bs := [getL (body Tryz.f135) 0]) (by kernel_rfl) ⟨lone_ok (q := (1, swapEnL0Q (PIf.spec swapEnL0I))) (by kernel_rfl) swapEnL0_ok, trivial⟩) ?_ (fun c0 x o y h => by obtain ⟨a, h1, rfl⟩ := Option.map_eq_some_iff.1 h; exact Option.map_eq_some_iff.2 ⟨a, h1, rfl⟩)
 rintro ⟨⟨c0, a, b, n, _, _⟩, ⟨d, _⟩⟩
 refine (swapEn_raw ..).trans ?_
 show _ = ((swapEnTr a b n d).val).map _
 unfold swapEnTr
 repeat' (first|(refine bindP (fun _ =>?_); try dsimp only [selim, cond_true, cond_false, Bool.not_true, Bool.not_false, one, mI, cmpEnI, swapEnL0I]) | rfl)
theorem swapEn_k {G : List (Nat × Con)} (h : GOk Tryz.prog gl G) : GOk Tryz.prog gl ((135, swapEn_C swapEnS) :: G) := GOk.cons ⟨Tryz.f135, body Tryz.f135, by kernel_rfl, by kernel_rfl, by kernel_rfl⟩ swapEn_ok h
abbrev rotEnL0vs : List Vh := [.s (.ownC 0), vi, .clo 98 [], vi, vi]
abbrev rotEnL0os : List OSh := cdw1q0
noncomputable abbrev rotEnL0fin : Fin := (Fin.one 1 Tryz.f130.ntmps (.exit 0) [0, 2, 4, 10] [.s (.ownC 0), vi, .clo 98 [], vi] cdw1q0)
noncomputable abbrev rotEnL0Q (sp : VhL rotEnL0vs × OShL rotEnL0os → Option rotEnL0fin.Y) : LCon := LCon.of Tryz.f130.ntmps [0, 2, 4, 10, 11] rotEnL0vs rotEnL0os rotEnL0fin sp
def rotEnL0Step (v1 : Int) (st : Int × Int × List En) : T ((Int × Int × List En) ⊕ (Int × List En)) :=
 let v2 := st.1
 let v3 := st.2.1
 let d := st.2.2
 bif v2 != v3 then
 bif decide (v2 > v3) then
 (swapEnTr (w64 (v1 - v2)) v1 v3 d).bind fun x0 =>
 .ret (Sum.inl (w64 (v2 - v3), v3, x0))
 else
 (swapEnTr (w64 (v1 - v2)) (w64 (w64 (v1 + v3) - v2)) v2 d).bind fun x0 =>
 .ret (Sum.inl (v2, w64 (v3 - v2), x0))
 else
 .ret (Sum.inr (v2, d))
@[reducible] def rotEnL0I : PIf (VhL rotEnL0vs × OShL rotEnL0os) rotEnL0fin.Y where
 α := Int × List En
 tr x := T.loop (rotEnL0Step x.1.2.1) FU (x.1.2.2.2.1, x.1.2.2.2.2.1, x.2.1)
 enc x a := ((x.1.1, x.1.2.1, (), a.1, ()), (a.2, ()))
theorem rotEnL0_raw (sp_cmpEn : cmpEn_T) (sp_swapEn : swapEn_T) (v0 : Value) (v1 v2 v3 : Int) (d : List En) : runW 1 Tryz.f130 0 [0, 2, 4, 10, 11] rotEnL0vs rotEnL0os rotEnL0fin [(98, cmpEn_C sp_cmpEn), (135, swapEn_C sp_swapEn)] [] [] (((v0, v1, (), v2, v3, ()), (d, ())) : VhL rotEnL0vs × OShL rotEnL0os) = (bif v2 != v3 then bif decide (v2 > v3) then (sp_swapEn (((), w64 (v1 - v2), v1, v3, (), ()), d, ())).bind fun val => some (Sum.inl ((v0, v1, (), w64 (v2 - v3), v3, ()), val.2.1, ())) else (sp_swapEn (((), w64 (v1 - v2), w64 (w64 (v1 + v3) - v2), v2, (), ()), d, ())).bind fun val => some (Sum.inl ((v0, v1, (), v2, w64 (v3 - v2), ()), val.2.1, ()))
else some (Sum.inr ((v0, v1, (), v2, ()), d, ()))) := by kernel_rfl
theorem rotEnL0_ok : LOk Tryz.prog gl 1 (rotEnL0Q (PIf.spec rotEnL0I)) (getL (body Tryz.f130) 0) := by
 refine lwk (Lc := []) (nh := []) (G := [(98, cmpEn_C cmpEnS), (135, swapEn_C swapEnS)]) (cmpEn_k (swapEn_k (GOk.nil))) (noloopN (by kernel_rfl)) (Fin.one_ok _ _ _ _) ?_
 rintro ⟨⟨v0, v1, _, v2, v3, _⟩, ⟨d, _⟩⟩ y hy
 refine ⟨_, loopP_ok (eX := fun (st : Int × Int × List En) => (let v2 := st.1; let v3 := st.2.1; let d := st.2.2; ((v0, v1, (), v2, v3, ()), (d, ())) : VhL rotEnL0vs × OShL rotEnL0os)) (body := rotEnL0Step v1) (fun st =>?_) _ (v2, v3, d) y hy⟩
 obtain ⟨v2, v3, d⟩ := st
 refine (rotEnL0_raw ..).trans ?_
 unfold rotEnL0Step
 repeat' (first|refine cond_outP (fun _ =>?_) (fun _ =>?_)|(refine bindP (fun _ =>?_); try dsimp only [selim, cond_true, cond_false, Bool.not_true, Bool.not_false, one, mI, cmpEnI, swapEnI]) | rfl)
def rotEnTr (a m b : Int) (d : List En) : T (List En) :=
 (T.loop (rotEnL0Step m) 4611686018427387904 (w64 (m - a), w64 (b - m), d)).bind fun x0 =>
 (swapEnTr (w64 (m - x0.1)) m x0.1 x0.2).bind fun x1 =>
 .ret x1
@[reducible] def rotEnCI : PIf (VhL [.s (.ownC 0), vi, vi, vi, .clo 98 []] × OShL cdw1q0) (VhL [.s (.ownC 0)] × OShL cdw1q0) where
 α := List En
 tr x := rotEnTr x.1.2.1 x.1.2.2.1 x.1.2.2.2.1 x.2.1
 enc x a := ((x.1.1, ()), (a, ()))
@[reducible] def rotEnI : PIf (VhL [.s (.own 0), vi, vi, vi, .clo 98 []] × OShL cdw1q0) (VhL [] × OShL cdw1q0) where
 α := List En
 tr x := rotEnTr x.1.2.1 x.1.2.2.1 x.1.2.2.2.1 x.2.1
 enc x a := ((), (a, ()))
abbrev rotEn_T : Type := VhL [.s (.own 0), vi, vi, vi, .clo 98 []] × OShL cdw1q0 → Option (VhL [] × OShL cdw1q0)
noncomputable abbrev rotEn_C (sp : rotEn_T) : Con := Con.fx [vi, vi, vi, .clo 98 []] cdw1q0 [] cdw1q0 sp
noncomputable abbrev rotEnS : rotEn_T := PIf.spec rotEnI
theorem rotEn_raw (p0 : cmpEn_T) (p1 : swapEn_T) (p2 : VhL rotEnL0vs × OShL rotEnL0os → Option rotEnL0fin.Y) (c0 : Value) (a m b : Int) (d : List En) : runX Tryz.f130 [vi, vi, vi, .clo 98 []] cdw1q0 [] cdw1q0 [(98, cmpEn_C p0), (135, swapEn_C p1)] [(2, rotEnL0Q p2)] [] (((c0, a, m, b, (), ()), (d, ())) : VhL [.s (.ownC 0), vi, vi, vi, .clo 98 []] × OShL cdw1q0) = ((p2 ((c0, m, (), w64 (m - a), w64 (b - m), ()), d, ())).bind fun z => (p1 (((), w64 (z.1.2.1 - z.1.2.2.2.1), z.1.2.1, z.1.2.2.2.1, (), ()), z.2.1, ())).bind fun z1 => some ((z.1.1, ()), z1.2.1, ())) := by kernel_rfl
theorem rotEn_ok : Sound Tryz.prog gl 130 (rotEn_C rotEnS) := by
 refine cxk (I := rotEnCI) (J := rotEnI) (fn := Tryz.f130) (G := [(98, cmpEn_C cmpEnS), (135, swapEn_C swapEnS)]) (cmpEn_k (swapEn_k (GOk.nil))) (by kernel_rfl) (by kernel_rfl) (Lc := [(2, rotEnL0Q (PIf.spec rotEnL0I))]) (nh := []) (lcok (bs := [getL (body Tryz.f130) 0]) (by kernel_rfl) ⟨lone_ok (q := (2, rotEnL0Q (PIf.spec rotEnL0I))) (by kernel_rfl) rotEnL0_ok, trivial⟩) ?_ (fun c0 x o y h => by obtain ⟨a, h1, rfl⟩ := Option.map_eq_some_iff.1 h; exact Option.map_eq_some_iff.2 ⟨a, h1, rfl⟩)
 rintro ⟨⟨c0, a, m, b, _, _⟩, ⟨d, _⟩⟩
 refine (rotEn_raw ..).trans ?_
 show _ = ((rotEnTr a m b d).val).map _
 unfold rotEnTr
 repeat' (first|(refine bindP (fun _ =>?_); try dsimp only [selim, cond_true, cond_false, Bool.not_true, Bool.not_false, one, mI, cmpEnI, swapEnI, rotEnL0I]) | rfl)
theorem rotEn_k {G : List (Nat × Con)} (h : GOk Tryz.prog gl G) : GOk Tryz.prog gl ((130, rotEn_C rotEnS) :: G) := GOk.cons ⟨Tryz.f130, body Tryz.f130, by kernel_rfl, by kernel_rfl, by kernel_rfl⟩ rotEn_ok h
abbrev insEnL1vs : List Vh := [.s (.ownC 0), vi, vi, .clo 98 [], vi, vi]
abbrev insEnL1os : List OSh := cdw1q0
noncomputable abbrev insEnL1fin : Fin := (Fin.one 1 Tryz.f123.ntmps (.exit 2) [0, 1, 2, 3, 8] [.s (.ownC 0), vi, vi, .clo 98 [], vi] cdw1q0)
noncomputable abbrev insEnL1Q (sp : VhL insEnL1vs × OShL insEnL1os → Option insEnL1fin.Y) : LCon := LCon.of Tryz.f123.ntmps [0, 1, 2, 3, 8, 9] insEnL1vs insEnL1os insEnL1fin sp
def insEnL1Step (v1 v2 v3 : Int) (st : Int × List En) : T ((Int × List En) ⊕ (List En)) :=
 let v4 := st.1
 let d := st.2
 bif decide (v4 > v1) then
 bif inR v4 d.length then
 bif inR (w64 (v4 - 1)) d.length then
 (cmpEnTr (rdE (EK.st SN.en) d v4) (rdE (EK.st SN.en) d (w64 (v4 - 1)))).bind fun x0 =>
 bif decide (x0 < 0) then
 bif inR (w64 (v4 - 1)) d.length then
 bif inR v4 d.length then
 bif inR v4 d.length then
 bif inR (w64 (v4 - 1)) (wrE (EK.st SN.en) d v4 (rdE (EK.st SN.en) d (w64 (v4 - 1)))).length then
 .ret (Sum.inl (w64 (v4 - 1), wrE (EK.st SN.en) (wrE (EK.st SN.en) d v4 (rdE (EK.st SN.en) d (w64 (v4 - 1)))) (w64 (v4 - 1)) (rdE (EK.st SN.en) d v4)))
 else
 .bot
 else
 .bot
 else
 .bot
 else
 .bot
 else
 .ret (Sum.inr d)
 else
 .bot
 else
 .bot
 else
 .ret (Sum.inr d)
@[reducible] def insEnL1I : PIf (VhL insEnL1vs × OShL insEnL1os) insEnL1fin.Y where
 α := List En
 tr x := T.loop (insEnL1Step x.1.2.1 x.1.2.2.1 x.1.2.2.2.2.1) FU (x.1.2.2.2.2.2.1, x.2.1)
 enc x a := ((x.1.1, x.1.2.1, x.1.2.2.1, (), x.1.2.2.2.2.1, ()), (a, ()))
theorem insEnL1_raw (sp_cmpEn : cmpEn_T) (v0 : Value) (v1 v2 v3 v4 : Int) (d : List En) : runW 1 Tryz.f123 1 [0, 1, 2, 3, 8, 9] insEnL1vs insEnL1os insEnL1fin [(98, cmpEn_C sp_cmpEn)] [] [] (((v0, v1, v2, (), v3, v4, ()), (d, ())) : VhL insEnL1vs × OShL insEnL1os) = (bif decide (v4 > v1) then bif inR v4 d.length then bif inR (w64 (v4 - 1)) d.length then (sp_cmpEn ((rdE (EK.st SN.en) d v4, rdE (EK.st SN.en) d (w64 (v4 - 1)), ()), ())).bind fun val => bif decide (val.1.1 < 0) then bif inR (w64 (v4 - 1)) d.length then bif inR v4 d.length then bif inR v4 d.length then bif inR (w64 (v4 - 1)) (wrE (EK.st SN.en) d v4 (rdE (EK.st SN.en) d (w64 (v4 - 1)))).length then some (Sum.inl ((v0, v1, v2, (), v3, w64 (v4 - 1), ()), wrE (EK.st SN.en) (wrE (EK.st SN.en) d v4 (rdE (EK.st SN.en) d (w64 (v4 - 1)))) (w64 (v4 - 1)) (rdE (EK.st SN.en) d v4), ())) else none else none else none else none else some (Sum.inr ((v0, v1, v2, (), v3, ()), d, ())) else none else none
else some (Sum.inr ((v0, v1, v2, (), v3, ()), d, ()))) := by kernel_rfl
theorem insEnL1_ok : LOk Tryz.prog gl 1 (insEnL1Q (PIf.spec insEnL1I)) (getL (body Tryz.f123) 1) := by
 refine lwk (Lc := []) (nh := []) (G := [(98, cmpEn_C cmpEnS)]) (cmpEn_k (GOk.nil)) (noloopN (by kernel_rfl)) (Fin.one_ok _ _ _ _) ?_
 rintro ⟨⟨v0, v1, v2, _, v3, v4, _⟩, ⟨d, _⟩⟩ y hy
 refine ⟨_, loopP_ok (eX := fun (st : Int × List En) => (let v4 := st.1; let d := st.2; ((v0, v1, v2, (), v3, v4, ()), (d, ())) : VhL insEnL1vs × OShL insEnL1os)) (body := insEnL1Step v1 v2 v3) (fun st =>?_) _ (v4, d) y hy⟩
 obtain ⟨v4, d⟩ := st
 refine (insEnL1_raw ..).trans ?_
 unfold insEnL1Step
 repeat' (first|refine cond_outP (fun _ =>?_) (fun _ =>?_)|(refine bindP (fun _ =>?_); try dsimp only [selim, cond_true, cond_false, Bool.not_true, Bool.not_false, one, mI, cmpEnI]) | rfl)
abbrev insEnL0vs : List Vh := [.s (.ownC 0), vi, vi, .clo 98 [], vi]
abbrev insEnL0os : List OSh := cdw1q0
noncomputable abbrev insEnL0fin : Fin := (Fin.one 1 Tryz.f123.ntmps (.exit 0) [0] [.s (.ownC 0)] cdw1q0)
noncomputable abbrev insEnL0Q (sp : VhL insEnL0vs × OShL insEnL0os → Option insEnL0fin.Y) : LCon := LCon.of Tryz.f123.ntmps [0, 1, 2, 3, 8] insEnL0vs insEnL0os insEnL0fin sp
def insEnL0Step (v1 v2 : Int) (st : Int × List En) : T ((Int × List En) ⊕ (List En)) :=
 let v3 := st.1
 let d := st.2
 bif decide (v3 < v2) then
 (T.loop (insEnL1Step v1 v2 v3) 4611686018427387904 (v3, d)).bind fun x0 =>
 .ret (Sum.inl (w64 (v3 + 1), x0))
 else
 .ret (Sum.inr d)
@[reducible] def insEnL0I : PIf (VhL insEnL0vs × OShL insEnL0os) insEnL0fin.Y where
 α := List En
 tr x := T.loop (insEnL0Step x.1.2.1 x.1.2.2.1) FU (x.1.2.2.2.2.1, x.2.1)
 enc x a := ((x.1.1, ()), (a, ()))
theorem insEnL0_raw (sp_cmpEn : cmpEn_T) (sp_insEnL1 : VhL insEnL1vs × OShL insEnL1os → Option insEnL1fin.Y) (v0 : Value) (v1 v2 v3 : Int) (d : List En) : runW 1 Tryz.f123 0 [0, 1, 2, 3, 8] insEnL0vs insEnL0os insEnL0fin [(98, cmpEn_C sp_cmpEn)] [(4, insEnL1Q sp_insEnL1)] [] (((v0, v1, v2, (), v3, ()), (d, ())) : VhL insEnL0vs × OShL insEnL0os) = (bif decide (v3 < v2) then (sp_insEnL1 ((v0, v1, v2, (), v3, v3, ()), d, ())).bind fun val => some (Sum.inl ((val.1.1, val.1.2.1, val.1.2.2.1, (), w64 (val.1.2.2.2.2.1 + 1), ()), val.2.1, ()))
else some (Sum.inr ((v0, ()), d, ()))) := by kernel_rfl
theorem insEnL0_ok : LOk Tryz.prog gl 1 (insEnL0Q (PIf.spec insEnL0I)) (getL (body Tryz.f123) 0) := by
 refine lwk (Lc := [(4, insEnL1Q (PIf.spec insEnL1I))]) (nh := []) (G := [(98, cmpEn_C cmpEnS)]) (cmpEn_k (GOk.nil)) (lcok (bs := [getL (body Tryz.f123) 1]) (by kernel_rfl) ⟨lone_ok (q := (4, insEnL1Q (PIf.spec insEnL1I))) (by kernel_rfl) insEnL1_ok, trivial⟩) (Fin.one_ok _ _ _ _) ?_
 rintro ⟨⟨v0, v1, v2, _, v3, _⟩, ⟨d, _⟩⟩ y hy
 refine ⟨_, loopP_ok (eX := fun (st : Int × List En) => (let v3 := st.1; let d := st.2; ((v0, v1, v2, (), v3, ()), (d, ())) : VhL insEnL0vs × OShL insEnL0os)) (body := insEnL0Step v1 v2) (fun st =>?_) _ (v3, d) y hy⟩
 obtain ⟨v3, d⟩ := st
 refine (insEnL0_raw ..).trans ?_
 unfold insEnL0Step
 repeat' (first|refine cond_outP (fun _ =>?_) (fun _ =>?_)|(refine bindP (fun _ =>?_); try dsimp only [selim, cond_true, cond_false, Bool.not_true, Bool.not_false, one, mI, cmpEnI, insEnL1I]) | rfl)
def insEnTr (a b : Int) (d : List En) : T (List En) :=
 (T.loop (insEnL0Step a b) 4611686018427387904 (w64 (a + 1), d)).bind fun x0 =>
 .ret x0
@[reducible] def insEnCI : PIf (VhL [.s (.ownC 0), vi, vi, .clo 98 []] × OShL cdw1q0) (VhL [.s (.ownC 0)] × OShL cdw1q0) where
 α := List En
 tr x := insEnTr x.1.2.1 x.1.2.2.1 x.2.1
 enc x a := ((x.1.1, ()), (a, ()))
@[reducible] def insEnI : PIf (VhL [.s (.own 0), vi, vi, .clo 98 []] × OShL cdw1q0) (VhL [] × OShL cdw1q0) where
 α := List En
 tr x := insEnTr x.1.2.1 x.1.2.2.1 x.2.1
 enc x a := ((), (a, ()))
abbrev insEn_T : Type := VhL [.s (.own 0), vi, vi, .clo 98 []] × OShL cdw1q0 → Option (VhL [] × OShL cdw1q0)
noncomputable abbrev insEn_C (sp : insEn_T) : Con := Con.fx [vi, vi, .clo 98 []] cdw1q0 [] cdw1q0 sp
noncomputable abbrev insEnS : insEn_T := PIf.spec insEnI
theorem insEn_raw (p0 : cmpEn_T) (p1 : VhL insEnL1vs × OShL insEnL1os → Option insEnL1fin.Y) (p2 : VhL insEnL0vs × OShL insEnL0os → Option insEnL0fin.Y) (c0 : Value) (a b : Int) (d : List En) : runX Tryz.f123 [vi, vi, .clo 98 []] cdw1q0 [] cdw1q0 [(98, cmpEn_C p0)] [(4, insEnL1Q p1), (1, insEnL0Q p2)] [] (((c0, a, b, (), ()), (d, ())) : VhL [.s (.ownC 0), vi, vi, .clo 98 []] × OShL cdw1q0) = ((p2 ((c0, a, b, (), w64 (a + 1), ()), d, ())).bind fun z => some ((z.1.1, ()), z.2.1, ())) := by kernel_rfl
theorem insEn_ok : Sound Tryz.prog gl 123 (insEn_C insEnS) := by
 refine cxk (I := insEnCI) (J := insEnI) (fn := Tryz.f123) (G := [(98, cmpEn_C cmpEnS)]) (cmpEn_k (GOk.nil)) (by kernel_rfl) (by kernel_rfl) (Lc := [(4, insEnL1Q (PIf.spec insEnL1I)), (1, insEnL0Q (PIf.spec insEnL0I))]) (nh := []) (lcok (bs := [getL (body Tryz.f123) 0, getL (body Tryz.f123) 1]) (by kernel_rfl) ⟨lone_ok (q := (1, insEnL0Q (PIf.spec insEnL0I))) (by kernel_rfl) insEnL0_ok, lone_ok (q := (4, insEnL1Q (PIf.spec insEnL1I))) (by kernel_rfl) insEnL1_ok, trivial⟩) ?_ (fun c0 x o y h => by obtain ⟨a, h1, rfl⟩ := Option.map_eq_some_iff.1 h; exact Option.map_eq_some_iff.2 ⟨a, h1, rfl⟩)
 rintro ⟨⟨c0, a, b, _, _⟩, ⟨d, _⟩⟩
 refine (insEn_raw ..).trans ?_
 show _ = ((insEnTr a b d).val).map _
 unfold insEnTr
 repeat' (first|(refine bindP (fun _ =>?_); try dsimp only [selim, cond_true, cond_false, Bool.not_true, Bool.not_false, one, mI, cmpEnI, insEnL1I, insEnL0I]) | rfl)
theorem insEn_k {G : List (Nat × Con)} (h : GOk Tryz.prog gl G) : GOk Tryz.prog gl ((123, insEn_C insEnS) :: G) := GOk.cons ⟨Tryz.f123, body Tryz.f123, by kernel_rfl, by kernel_rfl, by kernel_rfl⟩ insEn_ok h
end Go.Ax.Cd
