/- The string of a block, cut and put together. -/
import Derived.Test.YtedcpmkfanlicaaDvArr
set_option linter.unusedVariables false
set_option linter.unusedSimpArgs false
namespace Go.Proofs.Ytedcpmkfanlicaa
open Go Go.RowKit Go.Sort Go.Lib Go.Maps
theorem strB_list (x : Blk) : (strB x).data.toList = x.map fun n => UInt8.ofNat n.toNat := strOfNums_data x
theorem strB_size (x : Blk) : (strB x).size = x.length := by
  have := congrArg List.length (strB_list x)
  rw [List.length_map, Array.length_toList] at this
  exact this
theorem strB_torn {x y : Blk} (hy : y.length = 512) {b : Nat} (hb : b ≤ 512) : (strB x).extract 0 b ++ (strB y).extract b 512 = strB (x.take b ++ y.drop b) := by
  apply ByteArray.ext
  apply Array.toList_inj.1
  rw [strB_list, ByteArray.data_append, Array.toList_append, ByteArray.data_extract, ByteArray.data_extract, Array.toList_extract, Array.toList_extract, strB_list, strB_list, List.map_append, List.map_take, List.map_drop]
  congr 1
  apply List.take_of_length_le
  rw [List.length_drop, List.length_map, hy]
  exact Nat.le_refl _
end Go.Proofs.Ytedcpmkfanlicaa
