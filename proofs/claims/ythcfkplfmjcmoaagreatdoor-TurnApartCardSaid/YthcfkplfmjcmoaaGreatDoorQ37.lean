/- Merged. -/
import Derived.Test.YthcfkplfmjcmoaaGreatDoorQ13
import Derived.RangeFuncLeaves
import Derived.RangeFuncCalls
import Derived.TacticsIn
import Derived.ControlIn
import Derived.OrdersIn
namespace Go.Ax
open Go.RowKit
set_option linter.unusedVariables false
set_option linter.unusedSimpArgs false
section
variable {P : Program} {r : Nat} {Q : Exit → Act → World → Prop} {a : Act} {w : World}
def aWl (o : Oper) : Bool := match o.op with
 | .defer _ => false
 | _ => true
theorem bGz {o : Oper} {K : Act → World → Prop} (hd : aWl o = true) (h : o.wp P a w K Q) : o.wpIn (Fence.wide.inRound r) 0 P a w K Q := by
 refine ⟨fun _ _ => trivial, ?_⟩
 rw [Oper.semAt_eq _ _ _ (fun c hc => by simp [aWl, hc] at hd)]
 unfold Oper.wp at h
 generalize (execOp a.eval o).run P w = x at h ⊢
 cases x with
 | ok n w' =>
  cases n <;> simp only [Oper.upon, Oper.uponIn] at h ⊢ <;>
   first
   |exact h
   |exact ⟨fun hx => by simp [Fence.wide, Fence.inRound] at hx, (callsIn_wide (n := 0)).2 h⟩
   |exact ⟨fun hx => by simp [Fence.wide, Fence.inRound] at hx, fun c cs _ => let ⟨v, w', k1, k2⟩ := h c cs; ⟨v, w', k1, stepsIn_wide.2 k2⟩⟩
 | halt x w' => cases x <;> simp only [Oper.upon, Oper.uponIn] at h ⊢ <;> exact h
theorem sG {ops : Array Oper} (hl : ¬ LetsOut Q) : ∀ {l : List Oper}, (∀ o ∈ l, aWl o = true) → ∀ {a : Act} {w : World}, wpList P ops Q l a w → wpListIn (Fence.wide.inRound r) 0 P ops Q l a w
 | [], _, _, _, h => h
 | o :: l, hd, a, w, h => by
  simp only [wpList, wpListIn] at h ⊢
  split
  ·rename_i hw
   rw [if_pos hw] at h
   rcases h with h | ⟨_, h⟩
   ·exact Oper.wpIn_mono (fun a w h => sG hl (fun o ho => hd o (List.mem_cons_of_mem _ ho)) h) (bGz (hd o List.mem_cons_self) h)
   ·exact absurd h hl
  ·rename_i hw
   rw [if_neg hw] at h
   exact ⟨fun _ _ => trivial, sG hl (fun o ho => hd o (List.mem_cons_of_mem _ ho)) h⟩
end
section
variable {P : Program} {gl : Glb} {kd : TypeId → Option EK} {G : List (Nat × Con)} {n0 : Nat} {E : Ent} {r : Nat}
theorem bMi {K : AEx → St → Prop} : ¬ LetsOut (QK gl E K) := fun ⟨_, _, h⟩ => h
def yD : Code → Bool
 | .region _ ops d => !d && ops.toList.all aWl
 | .seq a b => yD a && yD b
 | .cond _ a b => yD a && yD b
 | .block _ a => yD a
 | .exit _ => true
 | .skip => true
 | _ => false
theorem aIn {Z : Type} (hG : GOk P gl G) {pl : Nat → Array Oper → Option (List Stage)} {nh : List (Nat × List NilH)} (hn0 : E.ρ.length = n0) : ∀ (c : Code) {s : St} {a : Act} {w : World} {ρ : List Value} {F : Nat → Prop} {K : AEx → St → Option Z} {z : Z}, yD c = true → Inv gl E s a w ρ F → exec P gl kd G n0 pl [] nh c s K = some z →
  c.wpIn (Fence.wide.inRound r) 0 P (QK gl E (fun e s => K e s = some z)) a w := by
 intro c
 induction c with
 | skip => intro s a w ρ F K z _ h hz; exact wpIn_skip ⟨s, ρ, F, h, hz⟩
 | exit id => intro s a w ρ F K z _ h hz; exact wpIn_exit ⟨s, ρ, F, h, hz⟩
 | region id ops draw =>
  intro s a w ρ F K z he h hz
  simp only [yD, Bool.and_eq_true, Bool.not_eq_true'] at he
  obtain ⟨rfl, he⟩ := he
  simp only [exec] at hz
  rw [if_neg (by simp)] at hz
  exact wpIn_mono (wpIn_region_list (sG bMi (fun o ho => List.all_eq_true.1 he o ho) (mA hG _ (K := nilK (nilF nh id) K) h hz))) (fun ex a w q => rR q)
 | seq x y ihx ihy =>
  intro s a w ρ F K z he h hz
  simp only [yD, Bool.and_eq_true] at he
  simp only [exec] at hz
  refine wpIn_seq (wpIn_mono (ihx he.1 h hz) (fun ex a w q =>?_))
  cases ex <;> simp only [QK] at q <;> simp only [Exit.then, QK]
  case normal => obtain ⟨s, ρ, F, h1, h2⟩ := q; exact ihy he.2 h1 h2
  case exit => exact q
  case ret => exact q
  case panic => exact q
 | cond c x y ihx ihy =>
  intro s a w ρ F K z he h hz
  simp only [yD, Bool.and_eq_true] at he
  simp only [exec] at hz
  split at hz
  ·rename_i t ht
   have hv := kF h.rep h.glo c
   rw [ht] at hv
   simp only [VR] at hv
   refine wpIn_cond hv ?_
   cases t
   ·exact ihy he.2 h hz
   ·exact ihx he.1 (h.mark hv) hz
  ·cases hz
 | block id c ih =>
  intro s a w ρ F K z he h hz
  simp only [yD] at he
  simp only [exec] at hz
  refine wpIn_block (wpIn_mono (ih he h hz) (fun ex a w q =>?_))
  cases ex <;> simp only [QK] at q <;> simp only [Exit.inBlock, QK]
  case normal => exact q
  case ret => exact q
  case panic => exact q
  case exit i =>
   obtain ⟨s, ρ, F, h1, h2⟩ := q
   by_cases c : i = id
   ·simp only [c, if_true] at h2 ⊢
    exact ⟨s, ρ, F, h1, h2⟩
   ·simp only [c, if_false] at h2 ⊢
    exact ⟨s, ρ, F, h1, h2⟩
 | _ => intro s a w ρ F K z he; exact absurd he (by simp [yD])
end
end Go.Ax
