/- wainscotref03's order of keys, by strings, by its contract. -/
import Derived.Test.YtfeomnkgkppdlaaSpCmp
import Derived.Test.YtfeomnkgkppdlaaOrder
import Derived.Laws.BytesArg
import Derived.Deep.QuietTactic
import Derived.BigQuiet
set_option linter.unusedVariables false
set_option linter.unusedSimpArgs false
namespace Go.Proofs.Ytfeomnkgkppdlaa
open Go Go.RowKit Go.Sort Go.Lib
attribute [local go_sem ↓] run_size24 run_size49 run_size25
attribute [local simp high] run_size24x run_size49x run_size25x

/-- a key's bytes as a string -/
def strK (k : Key) : ByteArray := ⟨k.toArray⟩
theorem strK_list (k : Key) : (strK k).toList = k.toList := by rw [ByteArray.toList_eq]; rfl
theorem bytesLess_lt : ∀ (x y : List UInt8), Op.bytesLess x y = decide (x < y)
  | [], [] => by simp [Op.bytesLess]
  | _ :: _, [] => by simp [Op.bytesLess]
  | [], _ :: _ => by simp [Op.bytesLess]
  | a :: x, b :: y => by
    rw [Op.bytesLess, bytesLess_lt x y]
    simp only [List.cons_lt_cons_iff]
    by_cases h1 : a < b <;> by_cases h2 : a = b <;> by_cases h3 : x < y <;> simp [h1, h2, h3]
theorem strK_less (a b : Key) : Op.bytesLess (strK a).toList (strK b).toList = ltK a b := by
  rw [strK_list, strK_list, bytesLess_lt]
  rw [Bool.eq_iff_iff, ltK_iff, decide_eq_true_eq]
theorem conv_key (k : Key) (w : World) (b o cap : Nat) (h : CellsAt w b o (keyCells k)) : (convert 50 9 (.slice (some ⟨b, o, none⟩) 24 cap)).run Try.prog w = .ok (.string (strK k)) w := by
  have := run_convert_bytes_arg (P := Try.prog) w 50 5 Try.underlying50 Try.underlying5 b o 24 cap (k.toList.map fun x => (x.toNat : Int)) (by simp) (fun i hi => by
    have e : (keyCells k)[i]? = some (byteV k[i]) := by simp [keyCells, List.getElem?_map, hi]
    rw [h i _ e]
    simp [byteV, List.getD, List.getElem?_map, hi]) 9 Try.underlying9
  rw [this]
  congr 2
  apply ByteArray.ext
  apply Array.toList_inj.1
  rw [strOfNums_data, List.map_map]
  show _ = k.toList
  conv => rhs; rw [← List.map_id k.toList]
  apply List.map_congr_left
  intro x _
  simp

set_option maxHeartbeats 400000 in
theorem less13_any (a b : Key) (w : World) :
    Calls Try.prog 13 #[keyV a, keyV b] w fun e w' => e = .returned (.bool (ltK a b)) ∧ Ext w w' := by
  have mixed := Try.mixed
  have k1 : ¬ K24 = 0 := by decide
  obtain ⟨C1, C2⟩ := two_new w (keyCells a) (keyCells b) 26 26
  have c1 := fun n => conv_key a (((w.alloc (.cells (keyCells a).toArray 26)).alloc (.cells (keyCells b).toArray 26)).drewN n) w.heap.size 0 24 (by have := C1.grow n #[]; rwa [grow_empty] at this)
  have c2 := fun n => conv_key b (((w.alloc (.cells (keyCells a).toArray 26)).alloc (.cells (keyCells b).toArray 26)).drewN n) (w.heap.size + 1) 0 24 (by have := C2.grow n #[]; rwa [grow_empty] at this)
  have E0 : Hid (Ext w ((w.alloc (.cells (keyCells a).toArray 26)).alloc (.cells (keyCells b).toArray 26))) := ((Ext.refl w).alloc _).alloc _
  have R := Lib.hid (strK_less a b)
  clear C1 C2
  unfold keyV
  go_enter Try.func13, Try.ntmps13
  go_wp2
  go_quiet (fail)
  go_wp2
  go_ret
  exact ⟨by rw [← R.out]; rfl, E0.out.drewN _⟩
end Go.Proofs.Ytfeomnkgkppdlaa
