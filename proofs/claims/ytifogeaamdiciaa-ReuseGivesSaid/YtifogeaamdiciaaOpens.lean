-- LIB Opens : how a row's arguments, of whatever kind, are opened: out of the datum's reading the kind's own fact
import Derived.Test.YtifogeaamdiciaaMy
import Derived.Test.YtifogeaamdiciaaWWords
import Derived.SizedLaws
import Derived.ChangeSlices
import Derived.ChangeArms
namespace Go.Proofs.Ytifogeaamdiciaa.Opens
open Go.RowKit Go.ChangeShapes Go.WideShapes Go.Proofs.YtifogeaamdiciaaW.PrintWords

/-- What reads as a datum of type t, of weights within the reach, is a value of the kind d, and wf holds of it. -/
def Opens {α : Type} (P : Program) (t : TypeId) (d : Kd α) (wf : α → Prop) : Prop :=
  ∀ (H : Type) (enc : TypeId × Value → H) (w : World) (base : Nat) (spare : Nat → Bool) (held : Bool) (fuel : Nat) (cs : List Value) (x : DataW H × List MemPlace),
    DataW.trod enc P w base spare held fuel t cs = some x → (∀ y ∈ x.1.weights P t, y ≤ 140737488351232) → ∃ a, d.K w a cs ∧ wf a

theorem Opens.int {P : Program} {t : TypeId} {k : IntKind} (ht : P.underlying t = some (.int k)) : Opens P t (Kd.int k) (fun n => (Lit.int k n).wf = true) := by
  intro H enc w base spare held fuel cs x h _
  obtain ⟨n, rfl, _, hw⟩ := DataW.trod_int ht h
  exact ⟨n, rfl, hw⟩
theorem Opens.bool {P : Program} {t : TypeId} (ht : P.underlying t = some .bool) : Opens P t Kd.bool (fun _ => True) := by
  intro H enc w base spare held fuel cs x h _
  obtain ⟨n, rfl, _⟩ := DataW.trod_bool ht h
  exact ⟨n, rfl, trivial⟩
theorem Opens.string {P : Program} {t : TypeId} (ht : P.underlying t = some .string) : Opens P t Kd.string (fun s => s.size ≤ 140737488351232) := by
  intro H enc w base spare held fuel cs x h hw
  obtain ⟨s, rfl, rfl, _⟩ := DataW.trod_string ht h
  refine ⟨s, rfl, ?_⟩
  have := hw s.data.toList.length (by simp [DataW.weights])
  simpa using this
theorem Opens.iso {α β : Type} {P : Program} {t : TypeId} {d : Kd α} {wf : α → Prop} (h : Opens P t d wf) (f : β → α) (g : α → β) (hg : ∀ y, f (g y) = y) : Opens P t (Kd.iso d f) (fun x => wf (f x)) := by
  intro H enc w base spare held fuel cs x hx hw
  obtain ⟨a, ha, hwa⟩ := h H enc w base spare held fuel cs x hx hw
  exact ⟨g a, by show d.K w (f (g a)) cs; rw [hg]; exact ha, by show wf (f (g a)); rw [hg]; exact hwa⟩
theorem Opens.mono {α : Type} {P : Program} {t : TypeId} {d : Kd α} {wf wf' : α → Prop} (h : Opens P t d wf) (hm : ∀ a, wf a → wf' a) : Opens P t d wf' := by
  intro H enc w base spare held fuel cs x hx hw
  obtain ⟨a, ha, hwa⟩ := h H enc w base spare held fuel cs x hx hw
  exact ⟨a, ha, hm a hwa⟩

theorem mem_weightsAll {H : Type} {P : Program} {e : TypeId} : ∀ {l : List (DataW H)} {i : Nat} {d : DataW H}, l[i]? = some d → ∀ n ∈ d.weights P e, n ∈ DataW.weightsAll P e l
  | [], i, d, h, _, _ => by simp at h
  | d0 :: l, 0, d, h, n, hn => by
    simp only [List.getElem?_cons_zero, Option.some.injEq] at h
    subst h
    simp only [DataW.weightsAll, List.mem_append]
    exact .inl hn
  | d0 :: l, i + 1, d, h, n, hn => by
    simp only [List.getElem?_cons_succ] at h
    simp only [DataW.weightsAll, List.mem_append]
    exact .inr (mem_weightsAll h n hn)

/-- A list out of its elements. -/
theorem list_of {α : Type} (R : Nat → α → Prop) : ∀ n, (∀ i, i < n → ∃ a, R i a) → ∃ l : List α, l.length = n ∧ ∀ i a, l[i]? = some a → R i a
  | 0, _ => ⟨[], rfl, fun i a h => by simp at h⟩
  | n + 1, h => by
    obtain ⟨l, hl, hr⟩ := list_of R n (fun i hi => h i (by omega))
    obtain ⟨a, ha⟩ := h n (by omega)
    refine ⟨l ++ [a], by simp [hl], fun i b hb => ?_⟩
    by_cases c : i < n
    · rw [List.getElem?_append_left (by omega)] at hb
      exact hr i b hb
    · rw [List.getElem?_append_right (by omega)] at hb
      have : i - l.length = 0 := by
        by_cases e : i - l.length = 0
        · exact e
        · rw [List.getElem?_eq_none (by simp; omega)] at hb; cases hb
      rw [this] at hb
      simp only [List.getElem?_cons_zero, Option.some.injEq] at hb
      have hi : i = n := by omega
      rw [hi, ← hb]
      exact ha

theorem Opens.slice {α : Type} {P : Program} {t e : TypeId} {d : Kd α} {wf : α → Prop} {B : Nat} (ht : P.underlying t = some (.slice e)) (hc : P.cellsOf e = d.sz) (hB : P.bytesOf e = B) (h : Opens P e d wf) :
    Opens P t (Kd.slice e d) (fun xs => xs.length ≤ maxLen ∧ xs.length * B ≤ 140737488351232 ∧ ∀ x ∈ xs, wf x) := by
  intro H enc w base spare held fuel cs x hx hw
  rcases DataW.trod_slice ht hx with ⟨rfl, rfl⟩ | ⟨a, len, cap, elems, rest, n, _, rfl, rfl, hb, hl, hm, hlen, hel, _, _⟩
  · exact ⟨[], ⟨none, 0, rfl, Nat.le_refl _, rfl, by simp, fun h => by simp at h⟩, by simp, by simp, by simp⟩
  · have hW : ∀ y ∈ (DataW.slice (elems.map (·.1)) (rest.map (·.1)) : DataW H).weights P t, y ≤ 140737488351232 := hw
    simp only [DataW.weights, ht] at hW
    have hkey : ∀ i, i < len → ∃ b : α, (∃ c : List Value, c.length = d.sz ∧ d.K w b c ∧ ∀ j u, c[j]? = some u → w.cell? (a.add (i * d.sz + j)) = some u) ∧ wf b := by
      intro i hi
      have he := hel i hi
      obtain ⟨y, hy⟩ : ∃ y, elems[i]? = some y := ⟨_, List.getElem?_eq_getElem (by omega)⟩
      rw [hy, hc] at he
      obtain ⟨c, hc1, hc2⟩ := Option.bind_eq_some_iff.1 he
      obtain ⟨_, hcl, hcc⟩ := World.cells?_some hc1
      obtain ⟨b, hb1, hb2⟩ := h H enc w base spare held n c y hc2 (fun z hz => hW z (by
        refine List.mem_cons_of_mem _ (List.mem_append_left _ (mem_weightsAll (i := i) ?_ z hz))
        rw [List.getElem?_map, hy]
        rfl))
      refine ⟨b, ⟨c, hcl, hb1, fun j u hu => ?_⟩, hb2⟩
      have hj : j < d.sz := by
        have := (List.getElem?_eq_some_iff.1 hu).1
        omega
      have := hcc j hj
      rw [hu] at this
      rw [← Go.Proofs.YtifogeaamdiciaaW.PrintWords.add_add]
      exact this
    obtain ⟨l, hll, hr⟩ := list_of _ len hkey
    have hwt := hW _ List.mem_cons_self
    rw [hB] at hwt
    have hlw : l.length * B ≤ 140737488351232 := by
      refine Nat.le_trans (Nat.mul_le_mul_right B ?_) hwt
      simp only [List.length_map]
      omega
    subst hll
    refine ⟨l, ⟨some a, cap, rfl, hl, rfl, ?_, fun _ => ⟨a, rfl, fun j p hp => (hr j p hp).1⟩⟩, ?_, hlw, fun b hb => ?_⟩
    · unfold maxLen at hm; omega
    · omega
    · obtain ⟨i, hi⟩ := List.mem_iff_getElem?.1 hb
      exact (hr i b hi).2

/-- Likewise of a struct's fields, from a place on. -/
def OpensFs {α : Type} (P : Program) (fs : List Field) (off : Nat) (d : Kd α) (wf : α → Prop) : Prop :=
  ∀ (H : Type) (enc : TypeId × Value → H) (w : World) (base : Nat) (spare : Nat → Bool) (held : Bool) (fuel : Nat) (cs : List Value) (xs : List (DataW H × List MemPlace)),
    (∀ (i : Nat) (f : Field), fs[i]? = some f → DataW.trod enc P w base spare held fuel f.type ((cs.drop f.offset).take (P.cellsOf f.type)) = xs[i]?) → xs.length = fs.length → cs.length = off + d.sz →
    (∀ (i : Nat) (f : Field) y, fs[i]? = some f → xs[i]? = some y → ∀ z ∈ y.1.weights P f.type, z ≤ 140737488351232) → ∃ a, d.K w a (cs.drop off) ∧ wf a
theorem OpensFs.one {α : Type} {P : Program} {f : Field} {off : Nat} {t : TypeId} {d : Kd α} {wf : α → Prop} (ht : f.type = t) (ho : f.offset = off) (hc : P.cellsOf t = d.sz) (h : Opens P t d wf) : OpensFs P [f] off d wf := by
  intro H enc w base spare held fuel cs xs hx hl hcs hw
  subst ht
  obtain ⟨y, hy⟩ : ∃ y, xs[0]? = some y := ⟨_, List.getElem?_eq_getElem (by rw [hl]; simp)⟩
  have h0 := hx 0 f rfl
  rw [hy, hc, ho, List.take_of_length_le (by rw [List.length_drop]; omega)] at h0
  exact h H enc w base spare held fuel _ y h0 (hw 0 f y rfl hy)
theorem OpensFs.cons {α β : Type} {P : Program} {f : Field} {fs : List Field} {off : Nat} {t : TypeId} {a : Kd α} {b : Kd β} {wa : α → Prop} {wb : β → Prop} (ht : f.type = t) (ho : f.offset = off) (hc : P.cellsOf t = a.sz) (h : Opens P t a wa) (hs : OpensFs P fs (off + a.sz) b wb) :
    OpensFs P (f :: fs) off (Kd.pair a b) (fun x => wa x.1 ∧ wb x.2) := by
  intro H enc w base spare held fuel cs xs hx hl hcs hw
  subst ht
  have hsz : (Kd.pair a b).sz = a.sz + b.sz := rfl
  rw [hsz] at hcs
  cases xs with
  | nil => simp at hl
  | cons y ys =>
    have h0 := hx 0 f rfl
    rw [hc, ho] at h0
    obtain ⟨p, hp, hwp⟩ := h H enc w base spare held fuel _ y h0 (hw 0 f y rfl rfl)
    obtain ⟨q, hq, hwq⟩ := hs H enc w base spare held fuel cs ys (fun i g hg => hx (i + 1) g hg) (by simpa using hl) (by omega) (fun i g z hg hz => hw (i + 1) g z hg hz)
    refine ⟨(p, q), ⟨(cs.drop off).take a.sz, cs.drop (off + a.sz), ?_, hp, hq⟩, hwp, hwq⟩
    rw [← List.drop_drop, List.take_append_drop]
theorem Opens.struct {α : Type} {P : Program} {t : TypeId} {fs : Array Field} {d : Kd α} {wf : α → Prop} (ht : P.underlying t = some (.struct fs)) (hc : P.cellsOf t = d.sz) (h : OpensFs P fs.toList 0 d wf) : Opens P t d wf := by
  intro H enc w base spare held fuel cs x hx hw
  obtain ⟨xs, n, _, rfl, hcl, hxl, hf⟩ := DataW.trod_struct ht hx
  have hW : ∀ y ∈ (DataW.agg (xs.map (·.1)) : DataW H).weights P t, y ≤ 140737488351232 := hw
  simp only [DataW.weights, ht] at hW
  have := h H enc w base spare held n cs xs (fun i f hif => hf i f (by simpa using hif)) (by simpa using hxl) (by omega) (fun i f y hif hy z hz => hW z
    (DataW.weights_mem_each (j := i) (t := f.type) (d := y.1) (by rw [List.getElem?_map, hif]; rfl) (by rw [List.getElem?_map, hy]; rfl) z hz))
  simpa using this
/-- Out of a row's own premise. -/
theorem weights_le {H : Type} {P : Program} {ts : List TypeId} {ds : List (DataW H)} (h : (DataW.weightsEach P ts ds).all (· ≤ reachBytes) = true) {j : Nat} {t : TypeId} {d : DataW H} (ht : ts[j]? = some t) (hd : ds[j]? = some d) :
    ∀ y ∈ d.weights P t, y ≤ 140737488351232 := by
  intro y hy
  have := List.all_eq_true.1 h y (DataW.weights_mem_each ht hd y hy)
  have h2 : y ≤ reachBytes := by simpa using this
  exact h2
end Go.Proofs.Ytifogeaamdiciaa.Opens
