/- New, Floor, Last of a log. -/
import Derived.Test.YtgkjckfkbpijpaaLogState
set_option linter.unusedVariables false
set_option linter.unusedSimpArgs false
namespace Go.Proofs.Ytgkjckfkbpijpaa
open Go Go.RowKit Go.Sort Go.Lib

set_option maxHeartbeats 400000 in
theorem new_any (last : Int) (w : World) : Calls Try.prog 8 #[.int .i64 last] w fun e w' =>
    e = .returned (.pointer (some ⟨w.heap.size, 0, none⟩)) ∧ Ext w w' ∧ LogAt w' w.heap.size w.heap.size (.slice none 0 0) [] (max last 0) (max last 0) := by
  go_enter Try.func8, Try.ntmps8
  go_wp2
  go_ret
  exact ⟨rfl, (Ext.refl w).alloc _, ⟨heap_alloc_new w _, Nat.le_refl _, World.ownsRow_nil _ _ _ _, fun c hc => by simp at hc⟩⟩

set_option maxHeartbeats 400000 in
theorem floor_any (w : World) (B p : Nat) (v : Value) (cs : List Cm) (last floor : Int) (h : LogAt w B p v cs last floor) : Calls Try.prog 13 #[.pointer (some ⟨p, 0, none⟩)] w fun e w' =>
    e = .returned (.int .i64 floor) ∧ w = w' := by
  have c0 := (cell_of_blk h.blk (j := 2) rfl).1
  clear h
  go_enter Try.func13, Try.ntmps13
  go_wp2
  go_ret
  exact ⟨rfl, rfl⟩
set_option maxHeartbeats 400000 in
theorem last_any (w : World) (B p : Nat) (v : Value) (cs : List Cm) (last floor : Int) (h : LogAt w B p v cs last floor) : Calls Try.prog 14 #[.pointer (some ⟨p, 0, none⟩)] w fun e w' =>
    e = .returned (.int .i64 last) ∧ w = w' := by
  have c0 := (cell_of_blk h.blk (j := 1) rfl).1
  clear h
  go_enter Try.func14, Try.ntmps14
  go_wp2
  go_ret
  exact ⟨rfl, rfl⟩
end Go.Proofs.Ytgkjckfkbpijpaa
