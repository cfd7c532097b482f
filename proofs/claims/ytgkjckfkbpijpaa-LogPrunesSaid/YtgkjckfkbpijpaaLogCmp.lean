/- log.compare by its contract: the order of two keys; it lays two blocks. -/
import Derived.Test.YtgkjckfkbpijpaaBytes
set_option linter.unusedVariables false
set_option linter.unusedSimpArgs false
namespace Go.Proofs.Ytgkjckfkbpijpaa
open Go Go.RowKit Go.Sort Go.Lib
attribute [local go_sem ↓] run_size24 run_size49
attribute [local simp high] run_size24x run_size49x

set_option maxHeartbeats 400000 in
theorem compare_any (a b : Key) (w : World) :
    Calls Try.prog 19 #[keyV a, keyV b] w fun e w' => e = .returned (.int .i64 (cmpK a b)) ∧ Ext w w' := by
  have hc : ∀ n os, Calls Try.prog 27 #[.slice (some ⟨w.heap.size, 0, none⟩) 24 24, .slice (some ⟨w.heap.size + 1, 0, none⟩) 24 24] (grow (((w.alloc (.cells (keyCells a).toArray 24)).alloc (.cells (keyCells b).toArray 24)).drewN n) os)
      fun e w' => e = .returned (.int .i64 (cmpK a b)) ∧ Ext (grow (((w.alloc (.cells (keyCells a).toArray 24)).alloc (.cells (keyCells b).toArray 24)).drewN n) os) w' := by
    intro n os
    have h1 := ((cellsAt_new w (keyCells a) 24).alloc (.cells (keyCells b).toArray 24)).grow n os
    have h2 := (cellsAt_new (w.alloc (.cells (keyCells a).toArray 24)) (keyCells b) 24).grow n os
    have h := keysCompare a b w.heap.size 0 24 (w.heap.size + 1) 0 24 _ h1 (by simp only [World.size_alloc] at h2; exact h2)
    exact h.mono fun e w' ⟨he, hw⟩ => ⟨he, by rw [← hw]; exact Ext.refl _⟩
  have HC := Lib.hid hc
  clear hc
  have mixed := Try.mixed
  unfold keyV
  go_enter Try.func19, Try.ntmps19
  go_wp2
  go_quiet_grown ((go_at_call 27; exact Calls.grown_ext (HC.out _ _)))
  go_wp2
  go_ret
  exact ⟨rfl, (((Ext.refl w).alloc _).alloc _).grow nq osq⟩
end Go.Proofs.Ytgkjckfkbpijpaa
