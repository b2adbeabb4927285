/- Lists as sets: strictly rising lists are told by their members; the reference Set gives the one with the members of its list. -/
import Derived.Test.YtifogeaamdiciaaPOrdLBase
import Derived.Test.YtifogeaamdiciaaPOrdx7
import Derived.Test.YtifogeaamdiciaaPOrdx8
namespace Go.Proofs.Ytifogeaamdiciaa.POrd
open Go.RowKit Go.Proofs.YtifogeaamdiciaaW.PrintWords Go.Proofs.YtifogeaamdiciaaW.PrintLast Go.Proofs.YtifogeaamdiciaaW.PrintMore

def IsSet (s l : List Int) : Prop := s.Pairwise (· < ·) ∧ ∀ x, x ∈ s ↔ x ∈ l
theorem rising_eq : ∀ {s t : List Int}, s.Pairwise (· < ·) → t.Pairwise (· < ·) → (∀ x, x ∈ s ↔ x ∈ t) → s = t := by
  intro s
  induction s with
  | nil =>
    intro t _ _ h
    cases t with
    | nil => rfl
    | cons b t => exact absurd ((h b).2 (List.mem_cons_self ..)) (by simp)
  | cons a s ih =>
    intro t hs ht h
    cases t with
    | nil => exact absurd ((h a).1 (List.mem_cons_self ..)) (by simp)
    | cons b t =>
      rw [List.pairwise_cons] at hs ht
      have hab : a = b := by
        rcases List.mem_cons.1 ((h a).1 (List.mem_cons_self ..)) with e | e
        · exact e
        · rcases List.mem_cons.1 ((h b).2 (List.mem_cons_self ..)) with e' | e'
          · exact e'.symm
          · have := hs.1 b e'
            have := ht.1 a e
            omega
      subst hab
      rw [ih hs.2 ht.2 (fun x => ?_)]
      constructor
      · intro hx
        rcases List.mem_cons.1 ((h x).1 (List.mem_cons_of_mem _ hx)) with e | e
        · have := hs.1 x hx
          omega
        · exact e
      · intro hx
        rcases List.mem_cons.1 ((h x).2 (List.mem_cons_of_mem _ hx)) with e | e
        · have := ht.1 x hx
          omega
        · exact e
theorem IsSet.unique {s t l : List Int} (h1 : IsSet s l) (h2 : IsSet t l) : s = t := rising_eq h1.1 h2.1 (fun x => by rw [h1.2, h2.2])
theorem has_loop (l : List Int) (a : Int) (hb : l.length ≤ 4611686018427387903) : ∀ (d i k : Nat), i + d = l.length → d < k →
    tendrilref09_Has.l0 k a l (l.length : Int) (i : Int) = some ((l.drop i).contains a) := by
  intro d
  induction d with
  | zero =>
    intro i k hd hk
    obtain ⟨k, rfl⟩ := fuel hk
    rw [tendrilref09_Has.l0, if_neg (by omega), List.drop_of_length_le (by omega)]
    rfl
  | succ d ih =>
    intro i k hd hk
    obtain ⟨k, rfl⟩ := fuel hk
    have hi : i < l.length := by omega
    rw [tendrilref09_Has.l0, if_pos (by omega), if_pos (by omega), if_pos (by omega), rd_at hi, List.drop_eq_getElem_cons hi, List.contains_cons, w64s i (by omega)]
    by_cases e : l[i] = a
    · rw [if_pos e]
      simp [e]
    · rw [if_neg e, ih (i + 1) k (by omega) (by omega)]
      have : (a == l[i]) = false := beq_eq_false_iff_ne.2 (fun h => e h.symm)
      rw [this, Bool.false_or]
theorem has_eq (l : List Int) (a : Int) (hb : l.length ≤ 4611686018427387903) (k : Nat) (hk : l.length < k) : tendrilref09_Has.f k l a = some (l.contains a) := by
  have := has_loop l a hb l.length 0 k (by omega) hk
  rw [List.drop_zero] at this
  exact this
/-- What the inner loop of Set knows after i places: of them, those outside s have m as their least, if f. -/
def Least (l s : List Int) (i : Nat) (m : Int) (f : Bool) : Prop :=
  (f = true → m ∈ l ∧ ¬ m ∈ s) ∧ ∀ x ∈ l.take i, ¬ x ∈ s → f = true ∧ m ≤ x
theorem least_loop (l s : List Int) (hb : l.length ≤ 1000000) (hs : s.length ≤ l.length) (t : Int) : ∀ (d i k : Nat) (m : Int) (f : Bool), i + d = l.length → d + l.length + 1 < k → Least l s i m f →
    ∃ k' m' f', k ≤ k' + d + 1 ∧ Least l s l.length m' f' ∧
      tendrilref09_Set.l1 k l s m f (l.length : Int) t l (l.length : Int) (i : Int) = (if f' = true then (if s.length < 17592186044416 then (tendrilref09_Set.l0 k' l (s ++ [m']) (l.length : Int) (wrap64 (t + 1))) else none) else tendrilref09_Set.l0 k' l s (l.length : Int) (wrap64 (t + 1))) := by
  intro d
  induction d with
  | zero =>
    intro i k m f hd hk hL
    obtain ⟨k, rfl⟩ : ∃ q, k = q + 1 := ⟨k - 1, by omega⟩
    obtain rfl : i = l.length := by omega
    rw [tendrilref09_Set.l1, if_neg (by omega)]
    exact ⟨k, m, f, by omega, hL, rfl⟩
  | succ d ih =>
    intro i k m f hd hk hL
    obtain ⟨k, rfl⟩ : ∃ q, k = q + 1 := ⟨k - 1, by omega⟩
    have hi : i < l.length := by omega
    have htk := List.take_succ_eq_append_getElem hi
    have hmem : l[i] ∈ l := List.getElem_mem hi
    rw [tendrilref09_Set.l1, if_pos (by omega), if_pos (by omega), if_pos (by omega), rd_at hi, has_eq s l[i] (by omega) k (by omega), w64s i (by omega)]
    have next : ∀ m' f', Least l s (i + 1) m' f' → ∃ k' m'' f'', k + 1 ≤ k' + (d + 1) + 1 ∧ Least l s l.length m'' f'' ∧
      tendrilref09_Set.l1 k l s m' f' (l.length : Int) t l (l.length : Int) ((i + 1 : Nat) : Int) = (if f'' = true then (if s.length < 17592186044416 then (tendrilref09_Set.l0 k' l (s ++ [m'']) (l.length : Int) (wrap64 (t + 1))) else none) else tendrilref09_Set.l0 k' l s (l.length : Int) (wrap64 (t + 1))) := by
      intro m' f' hL'
      obtain ⟨k', m2, f2, h1, h2, h3⟩ := ih (i + 1) k m' f' (by omega) (by omega) hL'
      exact ⟨k', m2, f2, by omega, h2, h3⟩
    rw [Option.bind_some]
    by_cases hc : l[i] ∈ s
    · rw [if_pos (List.contains_iff_mem.2 hc)]
      refine next m f ⟨hL.1, ?_⟩
      rw [htk]
      intro x hx hn
      rcases List.mem_append.1 hx with h | h
      · exact hL.2 x h hn
      · rw [List.mem_singleton.1 h] at hn
        exact absurd hc hn
    · rw [if_neg (fun h => hc (List.contains_iff_mem.1 h))]
      by_cases hf : f = true
      · rw [if_pos hf]
        by_cases hlt : l[i] < m
        · rw [if_pos hlt]
          refine next _ _ ⟨fun _ => ⟨hmem, hc⟩, ?_⟩
          rw [htk]
          intro x hx hn
          rcases List.mem_append.1 hx with h | h
          · have := (hL.2 x h hn).2
            exact ⟨rfl, by omega⟩
          · rw [List.mem_singleton.1 h]
            exact ⟨rfl, Int.le_refl _⟩
        · rw [if_neg hlt]
          refine next _ _ ⟨hL.1, ?_⟩
          rw [htk]
          intro x hx hn
          rcases List.mem_append.1 hx with h | h
          · exact hL.2 x h hn
          · rw [List.mem_singleton.1 h]
            exact ⟨hf, by omega⟩
      · rw [if_neg hf]
        refine next _ _ ⟨fun _ => ⟨hmem, hc⟩, ?_⟩
        rw [htk]
        intro x hx hn
        rcases List.mem_append.1 hx with h | h
        · exact absurd (hL.2 x h hn).1 hf
        · rw [List.mem_singleton.1 h]
          exact ⟨rfl, Int.le_refl _⟩
theorem filter_len_lt {α : Type} {p q : α → Bool} : ∀ {l : List α} {a : α}, a ∈ l → p a = false → q a = true → (∀ x, p x = true → q x = true) → (l.filter p).length < (l.filter q).length := by
  intro l
  induction l with
  | nil => intro a h; cases h
  | cons b l ih =>
    intro a h hp hq hpq
    have hle : ∀ l : List α, (l.filter p).length ≤ (l.filter q).length := by
      intro l
      induction l with
      | nil => simp
      | cons c l ih =>
        rw [List.filter_cons, List.filter_cons]
        cases hc : p c with
        | true => rw [hpq c hc]; simpa using ih
        | false =>
          cases q c
          · simpa using ih
          · simp; omega
    rw [List.filter_cons, List.filter_cons]
    rcases List.mem_cons.1 h with e | e
    · rw [← e, hp, hq]
      have := hle l
      simp; omega
    · have := ih e hp hq hpq
      cases hb : p b with
      | true => rw [hpq b hb]; simpa using this
      | false =>
        cases q b
        · simpa using this
        · simp; omega
theorem set_loop (l : List Int) (hb : l.length ≤ 1000000) : ∀ (d i k : Nat) (s : List Int), i + d = l.length → s.length ≤ i → (d + 1) * (l.length + 2) + l.length + 2 < k →
    s.Pairwise (· < ·) → (∀ x ∈ s, x ∈ l) → (∀ x ∈ l, ¬ x ∈ s → ∀ y ∈ s, y < x) → (l.filter (fun x => !s.contains x)).length ≤ d →
    ∃ r, tendrilref09_Set.l0 k l s (l.length : Int) (i : Int) = some r ∧ IsSet r l := by
  intro d
  induction d with
  | zero =>
    intro i k s hd hs hk hp hin hout hrem
    obtain ⟨k, rfl⟩ : ∃ q, k = q + 1 := ⟨k - 1, by omega⟩
    rw [tendrilref09_Set.l0, if_neg (by omega)]
    refine ⟨s, rfl, hp, fun x => ⟨hin x, fun hx => ?_⟩⟩
    have h0 := List.length_eq_zero_iff.1 (Nat.le_zero.1 hrem)
    rw [List.filter_eq_nil_iff] at h0
    have := h0 x hx
    simpa using this
  | succ d ih =>
    intro i k s hd hs hk hp hin hout hrem
    obtain ⟨k, rfl⟩ : ∃ q, k = q + 1 := ⟨k - 1, by omega⟩
    rw [Nat.succ_mul] at hk
    rw [tendrilref09_Set.l0, if_pos (by omega)]
    obtain ⟨k', m, f, h1, hL, h3⟩ := least_loop l s hb (by omega) (i : Int) l.length 0 k 0 false (by omega) (by omega) ⟨fun h => absurd h (by simp), fun x hx => absurd hx (by simp)⟩
    have h3' : tendrilref09_Set.l1 k l s 0 false (l.length : Int) (i : Int) l (l.length : Int) 0 = _ := h3
    rw [h3', w64s i (by omega)]
    rw [Least, List.take_length] at hL
    by_cases hf : f = true
    · rw [if_pos hf, if_pos (by omega)]
      obtain ⟨hm1, hm2⟩ := hL.1 hf
      refine ih (i + 1) k' (s ++ [m]) (by omega) (by simp; omega) (by omega) ?_ ?_ ?_ ?_
      · rw [List.pairwise_append]
        refine ⟨hp, List.pairwise_singleton _ _, fun a ha b hb => ?_⟩
        rw [List.mem_singleton.1 hb]
        exact hout m hm1 hm2 a ha
      · intro x hx
        rcases List.mem_append.1 hx with h | h
        · exact hin x h
        · rw [List.mem_singleton.1 h]; exact hm1
      · intro x hx hn y hy
        rw [List.mem_append, not_or, List.mem_singleton] at hn
        rcases List.mem_append.1 hy with h | h
        · exact hout x hx hn.1 y h
        · rw [List.mem_singleton.1 h]
          have := (hL.2 x hx hn.1).2
          have := hn.2
          omega
      · have := filter_len_lt (p := fun x => !(s ++ [m]).contains x) (q := fun x => !s.contains x) hm1 (by simp) (by simpa using hm2) (fun x hx => by
          simp only [Bool.not_eq_true', List.contains_eq_mem, decide_eq_false_iff_not, List.mem_append, not_or] at hx ⊢
          exact hx.1)
        omega
    · rw [if_neg hf]
      have hall : ∀ x ∈ l, x ∈ s := fun x hx => Decidable.byContradiction (fun hn => hf (hL.2 x hx hn).1)
      refine ih (i + 1) k' s (by omega) (by omega) (by omega) hp hin hout ?_
      rw [List.filter_eq_nil_iff.2 (fun x hx => by simpa using hall x hx)]
      simp
theorem ref_set (l : List Int) (hb : l.length ≤ 1000000) (k : Nat) (hk : (l.length + 1) * (l.length + 2) + l.length + 2 < k) : ∃ r, tendrilref09_Set.f k l = some r ∧ IsSet r l := by
  unfold tendrilref09_Set.f
  exact set_loop l hb l.length 0 k [] (by omega) (Nat.le_refl _) hk List.Pairwise.nil (fun x hx => by cases hx) (fun x _ _ y hy => by cases hy) (List.length_filter_le _ _)
end Go.Proofs.Ytifogeaamdiciaa.POrd
