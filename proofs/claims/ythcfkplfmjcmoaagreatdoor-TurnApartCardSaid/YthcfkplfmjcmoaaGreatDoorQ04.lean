/- Merged. -/
import Derived.Test.YthcfkplfmjcmoaaGreatDoorQ03
import Derived.Laws.Slices
namespace Go.Ax
open Go.RowKit
set_option linter.unusedVariables false
set_option linter.unusedSimpArgs false
section
variable {P : Program} {gl : Glb} {ρ : List Value} {F L B : Nat → Prop} {s : St} {a : Act} {w : World}
theorem vM : ∀ {l : List (Option AVal)} {xs : List Int}, ints l = some xs → l = xs.map fun x => some (AVal.int x)
 | [], xs, h => by simp only [ints, Option.some.injEq] at h; subst h; rfl
 | some (.int x) :: l, xs, h => by
  simp only [ints] at h
  obtain ⟨r, h1, rfl⟩ := Option.map_eq_some_iff.1 h
  simp [vM h1]
 | none :: l, xs, h => by simp [ints] at h
 | some (.bool _) :: _, _, h | some (.sl _ _) :: _, _, h | some (.sln _ _) :: _, _, h | some (.bsl _ _) :: _, _, h | some (.agg _) :: _, _, h | some (.tup _) :: _, _, h | some (.ptr _ _) :: _, _, h
 | some (.ept _ _ _ _) :: _, _, h | some (.dpt _ _ _ _) :: _, _, h | some (.ixp _ _ _ _ _ _) :: _, _, h | some (.dxp _ _ _ _ _ _ _ _) :: _, _, h | some (.own _) :: _, _, h | some (.vw _ _) :: _, _, h | some (.vd _ _ _ _) :: _, _, h
 | some (.asl _ _ _) :: _, _, h | some (.clo _ _) :: _, _, h | some (.ifc _ _) :: _, _, h | some (.map _) :: _, _, h | some (.con _) :: _, _, h | some .any :: _, _, h | some (.ownC _ _) :: _, _, h => by simp [ints] at h
theorem aIz {e : EK} : ∀ {l : List (Option AVal)} {xs : List (List e.T)}, sls e l = some xs → l.length = xs.length ∧ ∀ (i : Nat) (x : List e.T), xs[i]? = some x → ∃ v, l[i]? = some (some v) ∧ v.leaf (.sl e) = some x
 | [], xs, h => by simp only [sls, Option.some.injEq] at h; subst h; simp
 | none :: l, xs, h => by simp [sls] at h
 | some v :: l, xs, h => by
  simp only [sls] at h
  obtain ⟨x, h1, h⟩ := Option.bind_eq_some_iff.1 h
  obtain ⟨r, h2, rfl⟩ := Option.map_eq_some_iff.1 h
  obtain ⟨i1, i2⟩ := aIz h2
  refine ⟨by simp [i1], fun i y hy =>?_⟩
  cases i with
  | zero => simp at hy; subst hy; exact ⟨v, rfl, h1⟩
  | succ i => simpa using i2 i y (by simpa using hy)
theorem aEd {n off : Nat} : ∀ {l : List (Option AVal)}, ptrs n off l = true → ∀ (i : Nat) (x : Option AVal), l[i]? = some x → x = some (.ptr n off)
 | [], _, i, x, hx => by simp at hx
 | none :: l, h, _, _, _ => by simp [ptrs] at h
 | some v :: l, h, i, x, hx => by
  cases v with
  | ptr m o =>
   simp only [ptrs, Bool.and_eq_true, beq_iff_eq] at h
   obtain ⟨⟨rfl, rfl⟩, h2⟩ := h
   cases i with
   | zero => simpa using hx.symm
   | succ i => exact aEd h2 i x (by simpa using hx)
  | _ => simp [ptrs] at h
theorem aOl {i : Int} {l : List (Option AVal)} {v : AVal} {us : List Value} (h : selV i l = some v) (h0 : 0 ≤ i) (hi : i.toNat < l.length) (hl : l.length = us.length) (hv : ∀ (k : Nat) (x : AVal) (u : Value), l[k]? = some (some x) → us[k]? = some u → VR ρ w F B x u) {u : Value} (hu : us[i.toNat]? = some u) : VR ρ w F B v u := by
 unfold selV at h
 have slc : ∀ (e : EK) (xs : List (List e.T)), sls e l = some xs → VR ρ w F B (.sl e (rd (e := .sl e) xs i)) u := fun e xs hs => by
  obtain ⟨h1, h2⟩ := aIz hs
  have hlt : i.toNat < xs.length := by omega
  obtain ⟨y, hy1, hy2⟩ := h2 i.toNat _ (List.getElem?_eq_getElem hlt)
  have e1 : rd (e := .sl e) xs i = xs[i.toNat] := by simp [rd, List.getD_eq_getElem?_getD, List.getElem?_eq_getElem hlt]
  rw [e1]
  exact cU (k := .sl e) hy2 (hv _ _ _ hy1 hu)
 split at h
 ·obtain ⟨xs, h1, rfl⟩ := Option.map_eq_some_iff.1 h
  have h2 := vM h1
  rw [h2, List.length_map] at hi
  have h3 := hv i.toNat (.int xs[i.toNat]) u (by rw [h2]; simp [hi]) hu
  have e1 : rd (e := .int) xs i = xs[i.toNat] := by simp [rd, List.getD_eq_getElem?_getD, List.getElem?_eq_getElem hi]
  rw [e1]
  exact h3
 ·obtain ⟨xs, h1, rfl⟩ := Option.map_eq_some_iff.1 h
  exact slc _ xs h1
 ·obtain ⟨xs, h1, rfl⟩ := Option.map_eq_some_iff.1 h
  exact slc _ xs h1
 ·split at h
  ·rename_i hp
   cases h
   have := aEd hp i.toNat _ (List.getElem?_eq_getElem hi)
   exact hv i.toNat _ u (by rw [List.getElem?_eq_getElem hi, this]) hu
  ·cases h
 ·cases h
theorem aGd {i : Int} {l : List AVal} {b cnt sz off : Nat} {v : AVal} {row : List Value} (h : selV i ((List.range cnt).map fun k => l[b + k * sz + off]?) = some v) (h0 : 0 ≤ i) (hi : i < (cnt : Int)) (hb : b + cnt * sz ≤ l.length) (ho : off < sz) (hv : VRs ρ w F B l row) :
  ∃ u, row[b + i.toNat * sz + off]? = some u ∧ VR ρ w F B v u := by
 have hk : ∀ k, k < cnt → b + k * sz + off < row.length := fun k hk => by
  have : (k + 1) * sz ≤ cnt * sz := Nat.mul_le_mul_right sz hk
  rw [Nat.add_mul] at this
  rw [← hv.length]
  omega
 have hi' : i.toNat < cnt := by omega
 refine ⟨row[b + i.toNat * sz + off]'(hk _ hi'), List.getElem?_eq_getElem _, ?_⟩
 refine aOl (us := (List.range cnt).map fun k => row.getD (b + k * sz + off) undef) h h0 (by simpa using hi') (by simp) (fun k x u hx hu =>?_) ?_
 ·rw [List.getElem?_map] at hx hu
  cases hr : (List.range cnt)[k]? with
  | none => rw [hr] at hx; cases hx
  | some k' =>
   rw [hr] at hx hu
   have hk' : k' = k ∧ k < cnt := by
    have := List.getElem?_eq_some_iff.1 hr
    obtain ⟨h1, h2⟩ := this
    simp at h1 h2
    exact ⟨h2.symm, h1⟩
   obtain ⟨rfl, hlt⟩ := hk'
   simp only [Option.map_some, Option.some.injEq] at hx hu
   obtain ⟨u', hu', r⟩ := hv.at hx
   rw [List.getD_eq_getElem?_getD, hu'] at hu
   simp at hu
   rw [← hu]
   exact r
 ·rw [List.getElem?_map, List.getElem?_range hi']
  simp [List.getD_eq_getElem?_getD, List.getElem?_eq_getElem (hk _ hi')]
theorem rK {i : Int} {l : List AVal} {b cnt sz : Nat} {row : List Value} (h0 : 0 ≤ i) (hi : i < (cnt : Int)) (hb : b + cnt * sz ≤ l.length) (hv : VRs ρ w F B l row) : ∀ {n off : Nat} {vs : List AVal}, selL i l b cnt sz off n = some vs → off + n ≤ sz → VRs ρ w F B vs ((row.drop (b + i.toNat * sz + off)).take n)
 | 0, off, vs, h, _ => by simp only [selL, Option.some.injEq] at h; subst h; simp [VRs]
 | n + 1, off, vs, h, ho => by
  simp only [selL] at h
  obtain ⟨v, h1, h⟩ := Option.bind_eq_some_iff.1 h
  obtain ⟨r, h2, rfl⟩ := Option.map_eq_some_iff.1 h
  obtain ⟨u, hu, hr⟩ := aGd h1 h0 hi hb (by omega) hv
  have hlt := (List.getElem?_eq_some_iff.1 hu).1
  have e : (row.drop (b + i.toNat * sz + off)).take (n + 1) = u :: (row.drop (b + i.toNat * sz + (off + 1))).take n := by
   rw [List.drop_eq_getElem_cons hlt, List.take_succ_cons]
   congr 1
   have := List.getElem?_eq_some_iff.1 hu
   exact this.2
  rw [e]
  simp only [VRs]
  exact ⟨hr, rK h0 hi hb hv h2 (by omega)⟩
theorem pN {t : TypeId} {i : Int} {l : List AVal} {bb cnt sz off b o : Nat} {v : AVal} {row : List Value} (h : aBi P t i l bb cnt sz off = some v) (h0 : 0 ≤ i) (hi : i < (cnt : Int)) (hv : VRs ρ w F B l row) :
  ∃ val, (∀ w1 : World, (∀ (j : Nat) (u : Value), row[j]? = some u → w1.cell? ⟨b, o + j, none⟩ = some u) → (Instr.loadAt t (.pointer (some ⟨b, o + (bb + i.toNat * sz + off), none⟩))).run P w1 = .ok val w1) ∧ VR ρ w F B v val := by
 unfold aBi at h
 split at h
 ·rename_i hb
  obtain ⟨q, hq, h⟩ := Option.bind_eq_some_iff.1 h
  cases q with
  | true =>
   simp only [if_true] at h
   obtain ⟨n, hn, h⟩ := Option.bind_eq_some_iff.1 h
   split at h
   ·rename_i hle
    obtain ⟨vs, h1, rfl⟩ := Option.map_eq_some_iff.1 h
    have hs := rK h0 hi hb hv h1 hle
    obtain ⟨d, hd, hd2⟩ := Option.map_eq_some_iff.1 hq
    have hlen : ((row.drop (bb + i.toNat * sz + off)).take n).length = n := by
     have : (i.toNat + 1) * sz ≤ cnt * sz := Nat.mul_le_mul_right sz (by omega)
     rw [Nat.add_mul] at this
     have := hv.length
     simp
     omega
    refine ⟨.agg ((row.drop (bb + i.toNat * sz + off)).take n).toArray, fun w1 hw =>?_, ⟨_, rfl, by simpa using hs⟩⟩
    refine run_loadAt_mid w1 b _ t ((row.drop (bb + i.toNat * sz + off)).take n) d (fun j u hu =>?_) hd ?_ ?_
    ·rw [List.getElem?_take] at hu
     split at hu
     ·rw [List.getElem?_drop] at hu
      rw [show o + (bb + i.toNat * sz + off) + j = o + (bb + i.toNat * sz + off + j) by omega]
      exact hw _ _ hu
     ·cases hu
    ·cases d <;> simp_all
    ·obtain ⟨i', h1, h2⟩ := nM hn
     rw [h1, hlen]
     simp [h2]
   ·cases h
  | false =>
   simp only [Bool.false_eq_true, if_false] at h
   split at h
   ·rename_i ho
    obtain ⟨u, hu, r⟩ := aGd h h0 hi hb ho hv
    refine ⟨u, fun w1 hw =>?_, r⟩
    have := hw _ u hu
    simp [Instr.loadAt, Instr.sureAddr, loadVar, Sem.run_bind, lV hq, run_load, this]
   ·cases h
 ·cases h
theorem aJa {t : TypeId} {i : Int} {l : List AVal} {cnt sz : Nat} {v : AVal} {cs : Array Value} (h : aBi P t i l 0 cnt sz 0 = some v) (h0 : 0 ≤ i) (hi : i < (cnt : Int)) (hv : VRs ρ w F B l cs.toList) :
  ∃ val, (∀ w1, (part t cs (i.toNat * sz)).run P w1 = .ok val w1) ∧ VR ρ w F B v val := by
 unfold aBi at h
 split at h
 ·rename_i hb
  obtain ⟨q, hq, h⟩ := Option.bind_eq_some_iff.1 h
  cases q with
  | true =>
   simp only [if_true] at h
   obtain ⟨n, hn, h⟩ := Option.bind_eq_some_iff.1 h
   split at h
   ·rename_i hle
    obtain ⟨vs, h1, rfl⟩ := Option.map_eq_some_iff.1 h
    have hs := rK h0 hi hb hv h1 hle
    refine ⟨.agg (cs.extract (i.toNat * sz) (i.toNat * sz + n)), fun w1 => by simp [part, Sem.run_bind, lV hq, gO hn], ⟨_, rfl, ?_⟩⟩
    have e : (cs.extract (i.toNat * sz) (i.toNat * sz + n)).toList = (cs.toList.drop (i.toNat * sz)).take n := by
     simp [Array.toList_extract, List.extract_eq_take_drop]
    rw [e]
    simpa using hs
   ·cases h
  | false =>
   simp only [Bool.false_eq_true, if_false] at h
   split at h
   ·rename_i ho
    obtain ⟨u, hu, r⟩ := aGd h h0 hi hb ho hv
    refine ⟨u, fun w1 =>?_, r⟩
    have : cs[i.toNat * sz]? = some u := by simpa using hu
    simp [part, Sem.run_bind, lV hq, this]
   ·cases h
 ·cases h
end
end Go.Ax
