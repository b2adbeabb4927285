/- Merged. -/
import Derived.Maps.OwnOps
import Derived.Maps.OwnSet
import Derived.Maps.Views
import Derived.WalkKit
import Derived.Lib.SlKeysI
import Derived.Maps.RangeWalk
namespace Go.Proofs.YthcfkplfmjcmoaaGreatDoor.IMap
open Go.RowKit Go.Maps
variable {P : Program} {k e t : TypeId} {w w1 : World} {b n : Nat} {S : Int → Bool}
def BMap (P : Program) (k e : TypeId) (w : World) (b n : Nat) (S : Int → Bool) : Prop :=
 ∃ D : DataW Unit, w.ownsMap P k (plainElem P e) b n D ∧ ∀ x : Int, D.atKey (.int .i64 x) (.lit (.bool false)) = .lit (.bool (S x)) ∧ has D (.int .i64 x) = S x
theorem BMap.made (w : World) (P : Program) (k e : TypeId) : BMap P k e (w.alloc (.map #[] 0)) w.heap.size 0 (fun _ => false) :=
 ⟨_, World.ownsMap_made w P k _, fun x => ⟨by simp [DataW.atKey], by simp [has]⟩⟩
theorem BMap.kept {row : Option Nat} (h : BMap P k e w b n S) (hg : w.grownBy w1 row) (hr : row ≠ some b) : BMap P k e w1 b n S := by
 obtain ⟨D, hD, hx⟩ := h
 exact ⟨D, hD.kept hg (fun e => hr e.symm), hx⟩
theorem BMap.lt (h : BMap P k e w b n S) : b < w.heap.size := by
 obtain ⟨D, hD, _⟩ := h
 exact hD.lt
theorem BMap.below (h : BMap P k e w b n S) (hb : Below w.heap.size w w1) : BMap P k e w1 b n S := by
 obtain ⟨D, ⟨es, clock, h1, h2, h3, h4⟩, hx⟩ := h
 exact ⟨D, ⟨es, clock, (hb.block b (Array.getElem?_eq_some_iff.1 h1).1).trans h1, h2, h3, h4⟩, hx⟩
theorem BMap.lookup (h : BMap P k e w b n S) (hk : P.underlying k = some (.int .i64)) (he : P.underlying e = some .bool) (ht : P.underlying t = some (.map k e)) (hz : (zeroValue e).run P w = .ok (.bool false) w) (x : Int) (hx : (Lit.int .i64 x).wf = true) :
  (Instr.lookup t (.map (some b)) (.int .i64 x) false).run P w = .ok (.bool (S x)) w := by
 obtain ⟨D, hD, hS⟩ := h
 obtain ⟨v, ps, hrun, hv⟩ := hD.lookup (int_keyed hk) ht hz (plainElem_bool he false) (keyOf_int_mk hk hx)
 rw [(hS x).1] at hv
 rw [hrun]
 have : v = .bool (S x) := by
  unfold plainElem at hv
  rw [he] at hv
  cases v <;> simp at hv
  rw [hv.1]
 rw [this]
theorem BMap.put {D : DataW Unit} (hm : IsMap D) (hS : ∀ x : Int, D.atKey (.int .i64 x) (.lit (.bool false)) = .lit (.bool (S x)) ∧ has D (.int .i64 x) = S x) (x : Int) :
  ∀ y : Int, (D.put (.int .i64 x) (.lit (.bool true))).atKey (.int .i64 y) (.lit (.bool false)) = .lit (.bool (y == x || S y)) ∧ has (D.put (.int .i64 x) (.lit (.bool true))) (.int .i64 y) = (y == x || S y) := by
 intro y
 by_cases c : y = x
 ·subst c
  rw [atKey_put_same hm (show WideAt.IsKeyLit (Lit.int .i64 y) from trivial), has_put_same hm (show WideAt.IsKeyLit (Lit.int .i64 y) from trivial)]
  simp
 ·have hne : (Lit.int .i64 y) ≠ .int .i64 x := by simpa using c
  rw [atKey_put_other hne, has_put_other hne, (hS y).1, (hS y).2]
  simp [c]
theorem wpList_put {ops : Array Oper} {rest : List Oper} {o : Oper} {a : Act} {Q : Exit → Act → World → Prop}
  (hg : o.guard = none) (m x v : Operand) (t : TypeId) (hop : o.op = Op.mapUpdate t m x v)
  (hk : P.underlying k = some (.int .i64)) (he : P.underlying e = some .bool) (ht : P.underlying t = some (.map k e)) (hm : a.eval m = .map (some b)) (h : BMap P k e w b n S) (hn : n < maxLen)
  (i : Int) (hi : (Lit.int .i64 i).wf = true) (hx : a.eval x = .int .i64 i) (hv : a.eval v = .bool true)
  (hK : ∀ w', BMap P k e w' b (n + 1) (fun y => y == i || S y) → w.grownBy w' (some b) → wpList P ops Q rest (a.put o.dst undef) w') :
  wpList P ops Q (o :: rest) a w := by
 obtain ⟨D, hD, hS⟩ := h
 refine wpList_mapUpdate_own w hg m x v t hop k e (int_keyed hk) ht _ b n D hm hD hn _ _ _ hx hv (keyOf_int_mk hk hi) _ [] (plainElem_bool he true) ?_
 intro w' hown hgrow
 exact hK w' ⟨_, hown, BMap.put hD.isMap hS i⟩ hgrow
theorem keys_of {D : DataW Unit} {R : Value → Option (DataW Unit × List MemPlace)} (hk : P.underlying k = some (.int .i64)) (hown : w.ownsMap P k R b n D) : (intKeys D).Nodup ∧ ∀ x, x ∈ intKeys D ↔ has D (.int .i64 x) = true := by
 obtain ⟨es, hD, hpw, _⟩ := hown.entries (int_keyed hk)
 obtain ⟨es', hD', hko⟩ := hown.keysOf
 obtain rfl : es = es' := by rw [hD] at hD'; simpa using hD'
 subst hD
 have hkk : ∀ p ∈ es, ∃ x, p.1 = .int .i64 x := fun p hp => by
  obtain ⟨v, hv⟩ := hko p hp
  obtain ⟨x, _, hx, _⟩ := Maps.keyOf_i64 hk hv
  exact ⟨x, hx⟩
 constructor
 ·show (es.map fun p => intOf p.1).Nodup
  refine List.pairwise_map.2 (hpw.imp_of_mem fun {p q} hp' hq' hne e => hne ?_)
  obtain ⟨a, ha⟩ := hkk p hp'
  obtain ⟨b, hb⟩ := hkk q hq'
  rw [ha, hb] at e ⊢
  exact congrArg _ e
 ·intro x
  show x ∈ es.map (fun p => intOf p.1) ↔ _
  rw [Maps.has_eq, List.any_eq_true, List.mem_map]
  constructor
  ·rintro ⟨p, hp', rfl⟩
   obtain ⟨a, ha⟩ := hkk p hp'
   exact ⟨p, hp', by rw [ha]; simp [Lit.sameKey, intOf]⟩
  ·rintro ⟨p, hp', hs⟩
   obtain ⟨a, ha⟩ := hkk p hp'
   rw [ha] at hs
   exact ⟨p, hp', by rw [ha]; simpa [Lit.sameKey, intOf] using hs⟩
theorem wpList_next {ops : Array Oper} {rest : List Oper} {o : Oper} {a : Act} {Q : Exit → Act → World → Prop} {R : Value → Option (DataW Unit × List MemPlace)}
  (hg : o.guard = none) (it : Operand) (hop : o.op = Op.next it false) (hk : P.underlying k = some (.int .i64))
  (b r n : Nat) (D : DataW Unit) (left : Lit → Bool) (cnt : Nat) (hit : a.eval it = .pointer (some ⟨r, 0, none⟩)) (h : w.ranges P k R b r n D left cnt)
  (hDone : (∀ kl, left kl = false) → wpList P ops Q rest (a.put o.dst (.tuple #[.bool false])) w)
  (hMore : ∀ (x : Int) (v : Value) (w' : World) (cnt' : Nat), (Lit.int .i64 x).wf = true → left (.int .i64 x) = true → has D (.int .i64 x) = true → w'.ranges P k R b r n D (fun z => left z && !z.sameKey (.int .i64 x)) cnt' → cnt' < cnt →
   w.grownBy w' (some r) → (Instr.entry (.pointer (some ⟨r, 0, none⟩))).run P w' = .ok (.tuple #[.int .i64 x, v]) w' → wpList P ops Q rest (a.put o.dst (.tuple #[.bool true, .int .i64 x, v])) w') :
  wpList P ops Q (o :: rest) a w :=
 wpList_next_ranges w hg it hop k (int_keyed hk) R (Value.int .i64) id (fun key kl hkey => by obtain ⟨x, rfl, _⟩ := keyOf_int_inv hk hkey; exact ⟨x, rfl⟩) (fun v _ _ => ⟨v, rfl⟩)
  b r n D left cnt hit h (fun _ => hDone) (fun x v kl y w' cnt' hkey hlk _ hat hrg hlt hgr _ hen => by
   obtain ⟨x', ex, rfl, hwx⟩ := keyOf_int_inv hk hkey
   cases ex
   exact hMore x v w' cnt' hwx hlk (has_true_of_atKey hat) hrg hlt hgr hen)
end Go.Proofs.YthcfkplfmjcmoaaGreatDoor.IMap
