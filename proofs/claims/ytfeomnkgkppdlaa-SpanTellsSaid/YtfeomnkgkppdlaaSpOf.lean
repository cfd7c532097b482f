/- A span between two letters, by its contract. -/
import Derived.Test.YtfeomnkgkppdlaaSpLaw2
set_option linter.unusedVariables false
set_option linter.unusedSimpArgs false
namespace Go.Proofs.Ytfeomnkgkppdlaa
open Go Go.RowKit Go.Sort Go.Lib
attribute [local go_sem ↓] run_size24 run_size49 run_size25
attribute [local simp high] run_size24x run_size49x run_size25x
attribute [local go_sem ↓] to_span1 to_span2 to_span3 to_key1 to_spans1 to_keys1 to_bd0 to_bd1
attribute [local simp] is_bFrEn is_bTo is_bEn is_bFrTo is_bSpans1 is_bKeys1 run_bFrEn run_bTo run_bEn run_bFrTo run_bSpans1 run_bKeys1 is_bBdKey is_bBdEn is_bSp3 run_bBdKey run_bBdEn run_bBd0 run_bSp3

def oneKey (c : UInt8) : Key := zeroKey.set 0 c
def bOne (c : UInt8) : Sem Value := Instr.build 26 #[(0, byteV c)]
theorem is_bOne (c : UInt8) : bld1 26 (0, .int .u8 (c.toNat : Int)) = bOne c := rfl
theorem run_bOne (c : UInt8) (w : World) : (bOne c).run Try.prog w = .ok (.agg (keyCells (oneKey c)).toArray) w := by kernel_rfl
def ofS (a b : UInt8) : Sp := ⟨oneKey a, oneKey b, false⟩
attribute [local simp] is_bOne run_bOne
set_option maxHeartbeats 1000000 in
theorem of_any (a b : UInt8) (w : World) :
    Calls Try.prog 26 #[byteV a, byteV b] w fun e w' => e = .returned (spanV (ofS a b)) ∧ Ext w w' := by
  have k1 : ¬ K24 = 0 := by decide
  have k2 : ¬ K49 = 0 := by decide
  have k5 : (49 = K49) = True := by decide
  have st := fun cs (h : cs.size = 49) => store_last Try.prog (spanCells (ofS a b)) (spanCells_one _) w cs 28 (by rw [h, spanCells_length])
  have l4 := (cellsAt_new w (spanCells (ofS a b)) 28).load Try.prog K49 (spanCells_length _)
  have sl1 : (spanCells (ofS a b)).length = 49 := spanCells_length _
  have sl2 : ¬ (spanCells (ofS a b)).length ≠ K49 := by rw [sl1]; decide
  have E0 : Hid (Ext w (w.alloc (.cells (spanCells (ofS a b)).toArray 28))) := (Ext.refl w).alloc _
  have U : (⟨oneKey a, oneKey b, false⟩ : Sp) = ofS a b := rfl
  unfold byteV
  go_enter Try.func26, Try.ntmps26
  go_wp2
  refine bodyPost_ret (v := spanV (ofS a b)) ?_ rfl ⟨rfl, E0.out⟩
  simp [results, Try.results26, go_sem, spanV, *]
end Go.Proofs.Ytfeomnkgkppdlaa
