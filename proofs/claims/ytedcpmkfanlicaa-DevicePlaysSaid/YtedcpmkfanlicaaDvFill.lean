/- content, filled and Noughts by their contracts. -/
import Derived.Test.YtedcpmkfanlicaaDvSmall
import Derived.Deep.LoopGhost
set_option linter.unusedVariables false
set_option linter.unusedSimpArgs false
namespace Go.Proofs.Ytedcpmkfanlicaa
open Go Go.RowKit Go.Sort Go.Lib Go.Maps

theorem info5 : (Try.prog.info? 5).map (fun i => (i.zero, i.size, i.bytes)) = some (some (.int .u8 0), 1, 1) := by kernel_rfl
theorem made512 : madeCells (Value.int .u8 0).cells (Int.toNat 512 * 1) = (blkCells zeroBlk).toArray := by kernel_rfl
theorem make512 (w : World) : (Instr.makeSlice 31 (.int .i64 512) (.int .i64 512)).run Try.prog w = .ok (.slice (some ⟨w.heap.size, 0, none⟩) 512 512) (w.alloc (.cells (blkCells zeroBlk).toArray 5)) := by
  obtain ⟨i, hi, hz, hs, hb⟩ := info_parts info5
  rw [run_make w 31 5 i (.int .u8 0) Try.underlying31 hi hz .i64 .i64 512 512 (by decide) (by decide) (by rw [hb]; decide) (by decide), hs, made512]
  rfl
/-- the first bytes are written, the others are noughts -/
def partly (f : Nat → Int) (i : Nat) : Blk := (List.range 512).map fun j => if j < i then f j else 0
theorem partly_length (f : Nat → Int) (i : Nat) : (partly f i).length = 512 := by simp only [partly, List.length_map, List.length_range]
theorem partly_zero (f : Nat → Int) : partly f 0 = zeroBlk := by
  apply List.ext_getElem
  · rw [partly_length, zeroBlk, List.length_replicate]
  · intro j h1 h2
    simp only [partly, List.getElem_map, Nat.not_lt_zero, if_false, zeroBlk, List.getElem_replicate]
theorem partlyN_set (N : Nat) (f : Nat → Int) (i : Nat) : ((blkCells ((List.range N).map fun j => if j < i then f j else 0)).toArray.setIfInBounds i (bv (f i))) = (blkCells ((List.range N).map fun j => if j < i + 1 then f j else 0)).toArray := by
  rw [List.setIfInBounds_toArray]
  congr 1
  apply List.ext_getElem
  · simp only [List.length_set, blkCells_length, List.length_map, List.length_range]
  · intro j h1 h2
    rw [List.getElem_set]
    simp only [blkCells, List.getElem_map, List.getElem_range]
    split
    · next e => subst e; simp
    · next e => by_cases hj : j < i
                · simp [hj, Nat.lt_succ_of_lt hj]
                · have : ¬ j < i + 1 := by omega
                  simp [hj, this]
theorem partly_set (f : Nat → Int) (i : Nat) (hi : i < 512) : ((blkCells (partly f i)).toArray.setIfInBounds i (bv (f i))) = (blkCells (partly f (i + 1))).toArray := partlyN_set 512 f i
theorem partly_cell {w : World} {g i : Nat} {f : Nat → Int} {T : TypeId} (h : w.heap[g]? = some (.cells (blkCells (partly f i)).toArray T (0, 0))) {j : Nat} (hj : j < 512) : ∃ v, w.cell? ⟨g, j, none⟩ = some v ∧ w.frozen? ⟨g, j, none⟩ = false := by
  have hl : j < (blkCells (partly f i)).length := by rw [blkCells_length, partly_length]; exact hj
  have := cell_of_blk h (j := j) (u := (blkCells (partly f i))[j]) (by simp [hl])
  exact ⟨_, this⟩

theorem Full.partly {f : Nat → Int} (h : ∀ i, 0 ≤ f i ∧ f i < 256) (i : Nat) : Full (partly f i) :=
  ⟨partly_length f i, fun x hx => by
    simp only [Ytedcpmkfanlicaa.partly, List.mem_map] at hx
    obtain ⟨j, _, rfl⟩ := hx
    split
    · exact h j
    · omega⟩
/-- a block of a number -/
def contF (n : Int) (i : Nat) : Int := (n + n / 256 % 256 * ((i : Int) % 256) + (i : Int) / 256) % 256
def content (n : Int) : Blk := partly (contF n) 512
theorem full_content (n : Int) : Full (content n) := Full.partly (fun i => by unfold contF; omega) 512
def filled (c : Int) : Blk := partly (fun _ => c) 512
theorem full_filled {c : Int} (h : 0 ≤ c ∧ c < 256) : Full (filled c) := Full.partly (fun _ => h) 512
/-- w' has one block more: the slice's -/
def Laid (w w' : World) (b : Blk) : Prop := w'.heap[w.heap.size]? = some (.cells (blkCells b).toArray 5 (0, 0)) ∧ Chg (fun _ => False) w w'

set_option maxHeartbeats 1000000 in
theorem content_any (n : Int) (w : World) : Calls Try.prog 13 #[.int .i64 n] w fun e w' => e = .returned (.slice (some ⟨w.heap.size, 0, none⟩) 512 512) ∧ Laid w w' (content n) := by
  have mk := make512
  go_enter Try.func13, Try.ntmps13
  go_wp2
  go_loopg [4] 512 (fun kx s4 wr => ∃ i : Nat, s4 = .int .i64 i ∧ i ≤ 512 ∧ 512 - i ≤ kx ∧ Aside (wr.heap[w.heap.size]? = some (.cells (blkCells (partly (contF n) i)).toArray 5 (0, 0))) ∧ Aside (Chg (fun _ => False) w wr))
  case atStart =>
    refine ⟨0, rfl, by omega, Nat.le_refl _, ?_, chg_alloc _ _ _⟩
    show _ = _
    rw [partly_zero]; exact heap_alloc_new w _
  case round =>
    obtain ⟨i, rfl, hi, hg, B, Y⟩ := hrel
    by_cases hlt : i < 512
    · have z1 : (i : Int) < 512 := by omega
      have z2 : (0 : Int) ≤ (i : Int) := by omega
      obtain ⟨v, c, f⟩ := partly_cell B.out hlt
      go_wp2
      go_roundg (512 - (i + 1))
      case measure => omega
      case rel =>
        refine ⟨i + 1, by go_num, by omega, Nat.le_refl _, ?_, Y.out.trans (chg_setCell _ _ _) (fun j hj h => by simp at h; omega)⟩
        show _ = _
        rw [← partly_set _ _ hlt]
        exact heap_setCell_same _ _ _ _ _ _ B.out
    · obtain rfl : i = 512 := by omega
      go_wp2
      go_ret
      exact ⟨rfl, B.out, Y.out⟩
set_option maxHeartbeats 1000000 in
theorem filled_any (n : Int) (w : World) : Calls Try.prog 31 #[.int .u8 n] w fun e w' => e = .returned (.slice (some ⟨w.heap.size, 0, none⟩) 512 512) ∧ Laid w w' (filled n) := by
  have mk := make512
  go_enter Try.func31, Try.ntmps31
  go_wp2
  go_loopg [4] 512 (fun kx s4 wr => ∃ i : Nat, s4 = .int .i64 i ∧ i ≤ 512 ∧ 512 - i ≤ kx ∧ Aside (wr.heap[w.heap.size]? = some (.cells (blkCells (partly (fun _ => n) i)).toArray 5 (0, 0))) ∧ Aside (Chg (fun _ => False) w wr))
  case atStart =>
    refine ⟨0, rfl, by omega, Nat.le_refl _, ?_, chg_alloc _ _ _⟩
    show _ = _
    rw [partly_zero]; exact heap_alloc_new w _
  case round =>
    obtain ⟨i, rfl, hi, hg, B, Y⟩ := hrel
    by_cases hlt : i < 512
    · have z1 : (i : Int) < 512 := by omega
      have z2 : (0 : Int) ≤ (i : Int) := by omega
      obtain ⟨v, c, f⟩ := partly_cell B.out hlt
      go_wp2
      go_roundg (512 - (i + 1))
      case measure => omega
      case rel =>
        refine ⟨i + 1, by go_num, by omega, Nat.le_refl _, ?_, Y.out.trans (chg_setCell _ _ _) (fun j hj h => by simp at h; omega)⟩
        show _ = _
        rw [← partly_set _ _ hlt]
        exact heap_setCell_same _ _ _ _ _ _ B.out
    · obtain rfl : i = 512 := by omega
      go_wp2
      go_ret
      exact ⟨rfl, B.out, Y.out⟩
/-- the string of a block -/
def strB (b : Blk) : ByteArray := strOfNums b
theorem strB_inj {a b : Blk} (ha : Full a) (hb : Full b) (h : strB a = strB b) : a = b := by
  have h1 : (strB a).data.toList = (strB b).data.toList := by rw [h]
  unfold strB at h1
  rw [strOfNums_data, strOfNums_data] at h1
  apply List.ext_getElem (by rw [ha.1, hb.1])
  intro i hi hi'
  have h2 : (a.map fun n => UInt8.ofNat n.toNat)[i]'(by simpa using hi) = (b.map fun n => UInt8.ofNat n.toNat)[i]'(by simpa using hi') := by simp only [h1]
  rw [List.getElem_map, List.getElem_map] at h2
  have := ha.2 _ (List.getElem_mem hi)
  have := hb.2 _ (List.getElem_mem hi')
  have h3 : (UInt8.ofNat a[i].toNat).toNat = (UInt8.ofNat b[i].toNat).toNat := by rw [h2]
  rw [UInt8.toNat_ofNat', UInt8.toNat_ofNat'] at h3
  omega
theorem conv_blk (b : Blk) (hl : b.length = 512) (w : World) (g o cap : Nat) (h : CellsAt w g o (blkCells b)) : (convert 31 9 (.slice (some ⟨g, o, none⟩) 512 cap)).run Try.prog w = .ok (.string (strB b)) w :=
  run_convert_bytes_arg (P := Try.prog) w 31 5 Try.underlying31 Try.underlying5 g o 512 cap b hl (fun i hi => by
    have e : (blkCells b)[i]? = some (bv b[i]) := by simp [blkCells, List.getElem?_map, hl, hi]
    rw [h i _ e]
    simp [bv, List.getD, hl, hi]) 9 Try.underlying9
theorem cellsAt_blk {w : World} {g : Nat} {vs : List Value} {T : TypeId} (h : w.heap[g]? = some (.cells vs.toArray T (0, 0))) : CellsAt w g 0 vs := fun j v hj => by
  rw [Nat.zero_add]
  exact (cell_of_blk h (by simpa using hj)).1
set_option maxHeartbeats 400000 in
theorem noughts_any (w : World) : Calls Try.prog 23 #[] w fun e w' => e = .returned (.string (strB zeroBlk)) ∧ Chg (fun _ => False) w w' := by
  have mk := make512
  have cv := conv_blk zeroBlk full_zero.1 (w.alloc (.cells (blkCells zeroBlk).toArray 5)) w.heap.size 0 512 (cellsAt_new w _ 5)
  go_enter Try.func23, Try.ntmps23
  go_wp2
  go_ret
  exact ⟨rfl, chg_alloc _ _ _⟩
end Go.Proofs.Ytedcpmkfanlicaa
