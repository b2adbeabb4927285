/- The wakings of the reuse laws answer true. -/
import Derived.Test.YtifogeaamdiciaaPReuLSlots
import Derived.Test.YtifogeaamdiciaaPReux0
import Derived.Test.YtifogeaamdiciaaPReux3
import Derived.Test.YtifogeaamdiciaaPReux4
import Derived.Test.YtifogeaamdiciaaPReux6
import Derived.Test.YtifogeaamdiciaaPReux7
import Derived.Test.YtifogeaamdiciaaPReux8
namespace Go.Proofs.Ytifogeaamdiciaa.PReu
open Go.RowKit Go.Proofs.YtifogeaamdiciaaW.PrintWords Go.Proofs.YtifogeaamdiciaaW.PrintLast Go.Proofs.YtifogeaamdiciaaW.PrintMore

theorem live_true (k : Nat) (hk : 2 < k) : tendrillaw23_live.f k = some true := by
  have h1 : reuse_Stale.f (([(⟨0, 0, 0, 0, 0, 0, 0, false⟩ : S60), (⟨0, 0, 0, 0, 1, 2, 0, false⟩ : S60)] : List (S60))) = some [(⟨0, 0, 0, 0, 1, 2, 0, false⟩ : S60)] := by
    rw [reuse_Stale.f, if_pos (by decide)]
    rfl
  have h2 : reuse_Twice.f (([3, 1, 3] : List Int)) = some true := by
    rw [reuse_Twice.f, if_pos (by decide)]
    rfl
  have h3 : reuse_Slots.f k (([(⟨0, 2, 5, 0, 0, 0, 0, false⟩ : S60)] : List (S60))) 2 = some [5] := by
    have := slots_loop ([(⟨0, 2, 5, 0, 0, 0, 0, false⟩ : S60)]) 2 (by decide) 1 0 k [] (by rfl) (Nat.le_refl _) (by omega)
    have e : sortedL [5] = [5] := List.mergeSort_singleton _
    have e2 : slotsOf (List.drop 0 [(⟨0, 2, 5, 0, 0, 0, 0, false⟩ : S60)]) 2 = [5] := rfl
    rw [List.nil_append, e2, e] at this
    exact this.trans (by decide)
  unfold tendrillaw23_live.f
  rw [h1, Option.bind_some, if_pos (by decide), if_pos (by decide), if_pos (by decide), h2, Option.bind_some, if_pos rfl, h3]
  rfl
end Go.Proofs.Ytifogeaamdiciaa.PReu
