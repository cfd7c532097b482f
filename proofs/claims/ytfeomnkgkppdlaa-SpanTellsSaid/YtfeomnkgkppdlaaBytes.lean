/- bytes.Compare by its contract: what it answers of two rows of bytes; nothing turns. -/
import Derived.Test.YtfeomnkgkppdlaaProg
import Derived.Test.YtfeomnkgkppdlaaCells
set_option linter.unusedVariables false
set_option linter.unusedSimpArgs false
namespace Go.Proofs.Ytfeomnkgkppdlaa
open Go Go.RowKit Go.Sort Go.Lib

set_option maxHeartbeats 400000 in
theorem bytesCompare (x y : List UInt8) (b1 o1 c1 b2 o2 c2 : Nat) (w : World)
    (h1 : CellsAt w b1 o1 (x.map byteV)) (h2 : CellsAt w b2 o2 (y.map byteV)) :
    Calls Try.prog 34 #[.slice (some ⟨b1, o1, none⟩) x.length c1, .slice (some ⟨b2, o2, none⟩) y.length c2] w fun e w' => e = .returned (.int .i64 (Lib.compareBytes x y)) ∧ w = w' := by
  have H := Lib.hid (run_compareCells (P := Try.prog) w x y b1 o1 c1 b2 o2 c2 h1 h2)
  clear h1 h2
  go_enter Try.func34, Try.ntmps34
  go_wp2
  rw [run_callFunc_extern Try.func49 (by kernel_rfl) (by kernel_rfl) (by kernel_rfl) (e := Extern.BytealgCompare.compare) (by kernel_rfl), H.out]
  simp only [Result.andThen]
  rw [Oper.upon_value]
  go_wp2
  go_ret
  exact ⟨rfl, rfl⟩

/-- the same at two keys -/
theorem keysCompare (a b : Key) (b1 o1 c1 b2 o2 c2 : Nat) (w : World) (h1 : CellsAt w b1 o1 (keyCells a)) (h2 : CellsAt w b2 o2 (keyCells b)) :
    Calls Try.prog 34 #[.slice (some ⟨b1, o1, none⟩) 24 c1, .slice (some ⟨b2, o2, none⟩) 24 c2] w fun e w' => e = .returned (.int .i64 (cmpK a b)) ∧ w = w' := by
  have h := bytesCompare a.toList b.toList b1 o1 c1 b2 o2 c2 w h1 h2
  rw [Vector.length_toList, Vector.length_toList] at h
  exact h
theorem run_size24 (w : World) : Sem.run Try.prog (sizeOf 26) w = .ok K24 w := Try.sizeOf26 w
theorem run_size49 (w : World) : Sem.run Try.prog (sizeOf 28) w = .ok K49 w := Try.sizeOf28 w
theorem run_size24x (w : World) : Sem.run Try.prog (sizeOf 26) w = .ok K24 w := Try.sizeOf26 w
theorem run_size49x (w : World) : Sem.run Try.prog (sizeOf 28) w = .ok K49 w := Try.sizeOf28 w
theorem Try.mixed : Try.prog.follows .mixedOrders = true := by kernel_rfl
end Go.Proofs.Ytfeomnkgkppdlaa
