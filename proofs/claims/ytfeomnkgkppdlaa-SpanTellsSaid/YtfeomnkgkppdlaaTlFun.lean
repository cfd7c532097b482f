/- The reference's to, key and of, by their contracts. -/
import Derived.Test.YtfeomnkgkppdlaaTlStr
set_option linter.unusedVariables false
set_option linter.unusedSimpArgs false
namespace Go.Proofs.Ytfeomnkgkppdlaa
open Go Go.RowKit Go.Sort Go.Lib Go.Deep
attribute [local go_sem ↓] run_size24 run_size49 run_size25
attribute [local simp high] run_size24x run_size49x run_size25x
theorem chg_setRow (w : World) (g : Nat) (cs : Array Value) : Chg (fun i => i = g) w (w.setRow g cs) :=
  ⟨rfl, rfl, rfl, by simp [World.setRow], fun i hi hne => by
    show (w.heap.modify g _)[i]? = _
    rw [Array.getElem?_modify, if_neg (fun e => hne e.symm)]⟩
theorem cellsAt_blk {w : World} {g : Nat} {vs : List Value} {T : TypeId} (h : w.heap[g]? = some (.cells vs.toArray T (0, 0))) : CellsAt w g 0 vs := fun j v hj => by
  rw [Nat.zero_add]
  exact cell_of_blk h (by simpa using hj)
set_option maxHeartbeats 1000000 in
theorem to_of (s : Sp) (w : World) : Calls Try.prog 50 #[spanV s] w fun e w' => e = .returned (.string (strBd (toB s))) ∧ Ext w w' := by
  have k2 : ¬ K49 = 0 := by decide
  have C := cellsAt_new w (spanCells s) 28
  have en : (w.alloc (.cells (spanCells s).toArray 28)).cell? ⟨w.heap.size, 48, none⟩ = some (.bool s.en) := by have := spanEn C; rwa [Nat.zero_add] at this
  have T1 := spanTo C
  rw [Nat.zero_add] at T1
  have cv := conv_key s.to (w.alloc (.cells (spanCells s).toArray 28)) w.heap.size 24 24 T1
  have q := Lib.hid (end_any (w.alloc (.cells (spanCells s).toArray 28)))
  have E0 : Hid (Ext w (w.alloc (.cells (spanCells s).toArray 28))) := (Ext.refl w).alloc _
  unfold spanV
  cases he : s.en with
  | true =>
    have R : Hid (strBd (toB s) = ffs 25) := by show _ = _; unfold strBd toB; rw [he]; rfl
    rw [he] at en
    clear he C T1 cv
    go_enter Try.func50, Try.ntmps50
    go_wp2_with fail
    refine q.out.mono ?_
    rintro e w1 ⟨rfl, hw⟩
    have hw := hw.symm
    subst hw
    go_wp2
    go_ret
    rw [R.out]
    exact ⟨rfl, E0.out⟩
  | false =>
    have R : Hid (strBd (toB s) = strK s.to) := by show _ = _; unfold strBd toB; rw [he]; rfl
    rw [he] at en
    clear he C T1 q
    go_enter Try.func50, Try.ntmps50
    go_wp2
    go_ret
    rw [R.out]
    exact ⟨rfl, E0.out⟩
theorem byteCells_key (k : Key) : byteCells (strK k).data.toList = keyCells k := rfl
theorem strK_size (k : Key) : (strK k).size = 24 := by show k.toArray.size = 24; simp
set_option maxHeartbeats 1000000 in
theorem key_of (k : Key) (w : World) : Calls Try.prog 41 #[.string (strK k)] w fun e w' => e = .returned (keyV k) ∧ Chg (fun _ => False) w w' := by
  have k2 : ¬ K24 = 0 := by decide
  obtain ⟨w2, h2⟩ : ∃ W, W = (w.alloc (.cells (keyCells zeroKey).toArray 26)).alloc (.cells (keyCells zeroKey).toArray 26) := ⟨_, rfl⟩
  have E2 : Hid (Ext w w2) := by show Ext _ _; rw [h2]; exact ((Ext.refl w).alloc _).alloc _
  have B1 : Hid (w2.heap[w.heap.size]? = some (.cells (keyCells zeroKey).toArray 26 (0, 0))) := by
    show _ = _
    rw [h2, ((Ext.refl (w.alloc (.cells (keyCells zeroKey).toArray 26))).alloc _).heap (by simp)]
    exact heap_alloc_new w _
  have B2 : Hid (w2.heap[w.heap.size + 1]? = some (.cells (keyCells zeroKey).toArray 26 (0, 0))) := by
    show _ = _
    rw [h2]
    have := heap_alloc_new (w.alloc (.cells (keyCells zeroKey).toArray 26)) (.cells (keyCells zeroKey).toArray 26)
    rw [World.size_alloc] at this
    exact this
  have ez : (keyCells zeroKey).toArray = #[.int .u8 0, .int .u8 0, .int .u8 0, .int .u8 0, .int .u8 0, .int .u8 0, .int .u8 0, .int .u8 0, .int .u8 0, .int .u8 0, .int .u8 0, .int .u8 0, .int .u8 0, .int .u8 0, .int .u8 0, .int .u8 0, .int .u8 0, .int .u8 0, .int .u8 0, .int .u8 0, .int .u8 0, .int .u8 0, .int .u8 0, .int .u8 0] := rfl
  rw [ez] at h2
  clear ez
  have cp : ∀ ty, (Builtin.copy_ #[50, 9] ty #[.slice (some ⟨w.heap.size + 1, 0, none⟩) 24 24, .string (strK k)]).run Try.prog w2 = .ok (goInt 24) (w2.setRow (w.heap.size + 1) (keyCells k).toArray) := fun ty => by
    have h := run_copy_row_string (P := Try.prog) w2 50 9 ty 5 (w.heap.size + 1) 0 24 24 (strK k) (keyCells zeroKey).toArray 26 Try.underlying50 (by kernel_rfl) B2.out (by rw [strK_size]; exact Nat.le_refl _) (by rw [strK_size]; simp [keyCells_length])
    rw [strK_size, byteCells_key] at h
    rw [h]
    congr 2
    simp [keyCells_length, List.drop_of_length_le]
  obtain ⟨w3, h3⟩ : ∃ W, W = w2.setRow (w.heap.size + 1) (keyCells k).toArray := ⟨_, rfl⟩
  rw [← h3] at cp
  have X3 : Hid (Chg (fun i => i = w.heap.size + 1) w2 w3) := by show Chg _ _ _; rw [h3]; exact chg_setRow _ _ _
  have B3 : Hid (w3.heap[w.heap.size + 1]? = some (.cells (keyCells k).toArray 26 (0, 0))) := by show _ = _; rw [h3]; exact setRow_heap w2 _ _ _ 26 _ B2.out
  have B31 : Hid (w3.heap[w.heap.size]? = some (.cells (keyCells zeroKey).toArray 26 (0, 0))) := by show _ = _; rw [X3.out.block _ (by have := E2.out.size; by_cases h : w.heap.size < w2.heap.size; exact h; have := B1.out; rw [Array.getElem?_eq_none (by omega)] at this; exact absurd this (by simp)) (by omega)]; exact B1.out
  have l3 : Sem.run Try.prog (loadCellsFrom ⟨w.heap.size + 1, 0, none⟩ 0 K24 #[]) w3 = .ok (keyCells k).toArray w3 := (cellsAt_blk B3.out).load _ K24 (keyCells_length k)
  obtain ⟨w4, h4⟩ : ∃ W, W = w3.setRow w.heap.size (keyCells k).toArray := ⟨_, rfl⟩
  have s4 : Sem.run Try.prog (storeCells ⟨w.heap.size, 0, none⟩ (keyCells k) 0) w3 = .ok () w4 := by
    have h := run_storeCells_at Try.prog w.heap.size 0 26 (keyCells k) 0 (keyCells zeroKey).toArray w3 B31.out (by simp [keyCells_length]) (keyCells_one k)
    rw [h4, h]
    congr 2
    simp [keyCells_length, List.drop_of_length_le]
  have B4 : Hid (w4.heap[w.heap.size]? = some (.cells (keyCells k).toArray 26 (0, 0))) := by show _ = _; rw [h4]; exact setRow_heap w3 _ _ _ 26 _ B31.out
  have X4 : Hid (Chg (fun i => i = w.heap.size) w3 w4) := by show Chg _ _ _; rw [h4]; exact chg_setRow _ _ _
  have l4 : Sem.run Try.prog (loadCellsFrom ⟨w.heap.size, 0, none⟩ 0 K24 #[]) w4 = .ok (keyCells k).toArray w4 := (cellsAt_blk B4.out).load _ K24 (keyCells_length k)
  have sl1 : (keyCells k).length = 24 := keyCells_length k
  have sl2 : ¬ (keyCells k).length ≠ K24 := by rw [sl1]; decide
  have h2' := h2.symm
  clear h2 h3 h4
  go_enter Try.func41, Try.ntmps41
  go_upto_region 2 with fail
  try rw [h2']
  clear h2'
  go_wp2
  refine bodyPost_ret (v := keyV k) ?_ rfl ⟨rfl, ?_⟩
  · simp [results, Try.results41, go_sem, keyV, *]
  · exact ((E2.out.chg (fun _ => False)).trans X3.out (fun i hi e => by omega)).trans X4.out (fun i hi e => by omega)
theorem topBd (t : Bd) : ((strBd t).toList == (ffs 25).toList) = t.en := by
  have h := strBd_same t ⟨zeroKey, true⟩
  have e : strBd ⟨zeroKey, true⟩ = ffs 25 := rfl
  rw [e] at h
  rw [h]
  have l := nK_lt t.key
  unfold nB
  cases t.en
  · exact decide_eq_false (by simp only [Bool.false_eq_true, if_false, if_true]; omega)
  · simp
theorem span_to (f k : Key) (z : Key) (e : Bool) : ((spanCells ⟨f, z, e⟩).take 24 ++ keyCells k ++ (spanCells ⟨f, z, e⟩).drop 48) = spanCells ⟨f, k, e⟩ := by
  have l1 := keyCells_length f
  have l2 := keyCells_length z
  unfold spanCells
  simp [List.take_append, List.drop_append, l1, l2, List.take_of_length_le, List.drop_of_length_le]
theorem span_fr (f k : Key) (z : Key) (e : Bool) : ((spanCells ⟨f, z, e⟩).take 0 ++ keyCells k ++ (spanCells ⟨f, z, e⟩).drop 24) = spanCells ⟨k, z, e⟩ := by
  have l1 := keyCells_length f
  have l2 := keyCells_length z
  unfold spanCells
  simp [List.take_append, List.drop_append, l1, l2, List.take_of_length_le, List.drop_of_length_le]
theorem span_en (f z : Key) (e e' : Bool) : (spanCells ⟨f, z, e⟩).toArray.setIfInBounds 48 (.bool e') = (spanCells ⟨f, z, e'⟩).toArray := by
  have l1 := keyCells_length f
  have l2 := keyCells_length z
  unfold spanCells
  rw [List.setIfInBounds_toArray, List.set_append_right _ _ (by simp [l1, l2])]
  simp [l1, l2]
set_option maxHeartbeats 1000000 in
theorem of_of (f : Key) (t : Bd) (ht : NormB t) (w : World) : Calls Try.prog 52 #[.string (strK f), .string (strBd t)] w fun e w' => e = .returned (spanV (madeS ⟨f, false⟩ t)) ∧ Chg (fun _ => False) w w' := by
  have k2 : ¬ K24 = 0 := by decide
  have k3 : ¬ K49 = 0 := by decide
  unfold spanV
  obtain ⟨z0, hz0⟩ : ∃ z : Sp, z = ⟨zeroKey, zeroKey, false⟩ := ⟨_, rfl⟩
  obtain ⟨w2, h2⟩ : ∃ W, W = (w.alloc (.cells (spanCells z0).toArray 28)).alloc (.cells (spanCells z0).toArray 28) := ⟨_, rfl⟩
  have E2 : Hid (Ext w w2) := by show Ext _ _; rw [h2]; exact ((Ext.refl w).alloc _).alloc _
  have Z2 : Hid (w2.heap.size = w.heap.size + 2) := by show _ = _; rw [h2]; simp
  have B1 : Hid (w2.heap[w.heap.size]? = some (.cells (spanCells z0).toArray 28 (0, 0))) := by
    show _ = _
    rw [h2, ((Ext.refl (w.alloc (.cells (spanCells z0).toArray 28))).alloc _).heap (by simp)]
    exact heap_alloc_new w _
  have B2 : Hid (w2.heap[w.heap.size + 1]? = some (.cells (spanCells z0).toArray 28 (0, 0))) := by
    show _ = _
    rw [h2]
    have := heap_alloc_new (w.alloc (.cells (spanCells z0).toArray 28)) (.cells (spanCells z0).toArray 28)
    rw [World.size_alloc] at this
    exact this
  have ez : (spanCells z0).toArray = #[.int .u8 0, .int .u8 0, .int .u8 0, .int .u8 0, .int .u8 0, .int .u8 0, .int .u8 0, .int .u8 0, .int .u8 0, .int .u8 0, .int .u8 0, .int .u8 0, .int .u8 0, .int .u8 0, .int .u8 0, .int .u8 0, .int .u8 0, .int .u8 0, .int .u8 0, .int .u8 0, .int .u8 0, .int .u8 0, .int .u8 0, .int .u8 0, .int .u8 0, .int .u8 0, .int .u8 0, .int .u8 0, .int .u8 0, .int .u8 0, .int .u8 0, .int .u8 0, .int .u8 0, .int .u8 0, .int .u8 0, .int .u8 0, .int .u8 0, .int .u8 0, .int .u8 0, .int .u8 0, .int .u8 0, .int .u8 0, .int .u8 0, .int .u8 0, .int .u8 0, .int .u8 0, .int .u8 0, .int .u8 0, .bool false] := by rw [hz0]; rfl
  rw [ez] at h2
  clear ez
  have cp : ∀ ty, (Builtin.copy_ #[50, 9] ty #[.slice (some ⟨w.heap.size + 1, 0, none⟩) 24 24, .string (strK f)]).run Try.prog w2 = .ok (goInt 24) (w2.setRow (w.heap.size + 1) (spanCells ⟨f, zeroKey, false⟩).toArray) := fun ty => by
    have h := run_copy_row_string (P := Try.prog) w2 50 9 ty 5 (w.heap.size + 1) 0 24 24 (strK f) (spanCells z0).toArray 28 Try.underlying50 (by kernel_rfl) B2.out (by rw [strK_size]; exact Nat.le_refl _) (by rw [strK_size]; simp [spanCells_length])
    rw [strK_size, byteCells_key] at h
    rw [h, hz0]
    congr 2
    exact congrArg List.toArray (span_fr zeroKey f zeroKey false)
  obtain ⟨w3, h3⟩ : ∃ W, W = w2.setRow (w.heap.size + 1) (spanCells ⟨f, zeroKey, false⟩).toArray := ⟨_, rfl⟩
  rw [← h3] at cp
  have X3 : Hid (Chg (fun i => i = w.heap.size + 1) w2 w3) := by show Chg _ _ _; rw [h3]; exact chg_setRow _ _ _
  have B3 : Hid (w3.heap[w.heap.size + 1]? = some (.cells (spanCells ⟨f, zeroKey, false⟩).toArray 28 (0, 0))) := by show _ = _; rw [h3]; exact setRow_heap w2 _ _ _ 28 _ B2.out
  have tl := topBd t
  have q := Lib.hid (end_any w3)
  have key : ∀ w4, Chg (fun i => i = w.heap.size + 1) w3 w4 → w4.heap[w.heap.size + 1]? = some (.cells (spanCells (madeS ⟨f, false⟩ t)).toArray 28 (0, 0)) → ∃ w5,
      Sem.run Try.prog (loadCellsFrom ⟨w.heap.size + 1, 0, none⟩ 0 K49 #[]) w4 = .ok (spanCells (madeS ⟨f, false⟩ t)).toArray w4 ∧
      Sem.run Try.prog (storeCells ⟨w.heap.size, 0, none⟩ (spanCells (madeS ⟨f, false⟩ t)) 0) w4 = .ok () w5 ∧
      Sem.run Try.prog (loadCellsFrom ⟨w.heap.size, 0, none⟩ 0 K49 #[]) w5 = .ok (spanCells (madeS ⟨f, false⟩ t)).toArray w5 ∧ Chg (fun _ => False) w w5 := fun w4 X4 B4 => by
    have B41 : w4.heap[w.heap.size]? = some (.cells (spanCells z0).toArray 28 (0, 0)) := by
      have := Z2.out
      have s3 := X3.out.size
      rw [X4.block _ (by omega) (by omega), X3.out.block _ (by omega) (by omega)]
      exact B1.out
    have h := run_storeCells_at Try.prog w.heap.size 0 28 (spanCells (madeS ⟨f, false⟩ t)) 0 (spanCells z0).toArray w4 B41 (by simp [spanCells_length]) (spanCells_one _)
    have e : ((spanCells z0).toArray.toList.take (0 + 0) ++ spanCells (madeS ⟨f, false⟩ t) ++ (spanCells z0).toArray.toList.drop (0 + 0 + (spanCells (madeS ⟨f, false⟩ t)).length)).toArray = (spanCells (madeS ⟨f, false⟩ t)).toArray := by
      simp [spanCells_length, List.drop_of_length_le]
    refine ⟨w4.setRow w.heap.size (spanCells (madeS ⟨f, false⟩ t)).toArray, (cellsAt_blk B4).load _ K49 (spanCells_length _), by rw [h]; congr 2, (cellsAt_blk (setRow_heap w4 _ _ _ 28 _ B41)).load _ K49 (spanCells_length _), ?_⟩
    exact (((E2.out.chg (fun _ => False)).trans X3.out (fun i hi e => by omega)).trans X4 (fun i hi e => by omega)).trans (chg_setRow _ _ _) (fun i hi e => by omega)
  have sl1 : (spanCells (madeS ⟨f, false⟩ t)).length = 49 := spanCells_length _
  have sl2 : ¬ (spanCells (madeS ⟨f, false⟩ t)).length ≠ K49 := by rw [sl1]; decide
  have h2' := h2.symm
  have KEY := Lib.hid key
  clear h2 h3 key
  cases hen : t.en with
  | true =>
    have em : (⟨f, zeroKey, true⟩ : Sp) = madeS ⟨f, false⟩ t := by have := ht hen; unfold madeS; rw [hen, this]
    have XW := chg_setCell w3 ⟨w.heap.size + 1, 48, none⟩ (.bool true)
    have B4 : (w3.setCell ⟨w.heap.size + 1, 48, none⟩ (.bool true)).heap[w.heap.size + 1]? = some (.cells (spanCells (madeS ⟨f, false⟩ t)).toArray 28 (0, 0)) := by
      rw [heap_setCell_same w3 _ 48 _ 28 _ B3.out, span_en, em]
    obtain ⟨w5, l4, s4, l5, X5⟩ := KEY.out _ XW B4
    have X5 := Lib.hid X5
    have c48 : w3.cell? ⟨w.heap.size + 1, 48, none⟩ = some (.bool false) := by have := spanEn (cellsAt_blk B3.out); rwa [Nat.zero_add] at this
    have f48 : w3.frozen? ⟨w.heap.size + 1, 48, none⟩ = false := frozen_of_row w3 _ 48 _ 28 B3.out
    rw [hen] at tl
    clear hen em XW B4
    generalize spanCells (madeS ⟨f, false⟩ t) = sc at *
    go_enter Try.func52, Try.ntmps52
    go_wp2_with fail
    refine q.out.mono ?_
    rintro e w4 ⟨rfl, hw⟩
    have hw := hw.symm
    subst hw
    go_wp2
    refine bodyPost_ret (v := .agg sc.toArray) ?_ rfl ⟨rfl, X5.out⟩
    simp [results, Try.results52, go_sem, *]
  | false =>
    have es : strBd t = strK t.key := by unfold strBd; rw [hen]; rfl
    have em : (⟨f, t.key, false⟩ : Sp) = madeS ⟨f, false⟩ t := by unfold madeS; rw [hen]
    have cp2 : ∀ ty, (Builtin.copy_ #[50, 9] ty #[.slice (some ⟨w.heap.size + 1, 24, none⟩) 24 24, .string (strBd t)]).run Try.prog w3 = .ok (goInt 24) (w3.setRow (w.heap.size + 1) (spanCells (madeS ⟨f, false⟩ t)).toArray) := fun ty => by
      have h := run_copy_row_string (P := Try.prog) w3 50 9 ty 5 (w.heap.size + 1) 24 24 24 (strK t.key) (spanCells ⟨f, zeroKey, false⟩).toArray 28 Try.underlying50 (by kernel_rfl) B3.out (by rw [strK_size]; exact Nat.le_refl _) (by rw [strK_size]; simp [spanCells_length])
      rw [strK_size, byteCells_key] at h
      rw [es, h, ← em]
      congr 2
      exact congrArg List.toArray (span_to f t.key zeroKey false)
    have XW := chg_setRow w3 (w.heap.size + 1) (spanCells (madeS ⟨f, false⟩ t)).toArray
    have B4 := setRow_heap w3 (w.heap.size + 1) (spanCells ⟨f, zeroKey, false⟩).toArray (spanCells (madeS ⟨f, false⟩ t)).toArray 28 _ B3.out
    obtain ⟨w5, l4, s4, l5, X5⟩ := KEY.out _ XW B4
    have X5 := Lib.hid X5
    rw [hen] at tl
    clear hen em XW B4 es
    generalize hw4 : w3.setRow (w.heap.size + 1) (spanCells (madeS ⟨f, false⟩ t)).toArray = w4 at *
    generalize spanCells (madeS ⟨f, false⟩ t) = sc at *
    clear hw4
    go_enter Try.func52, Try.ntmps52
    go_wp2_with fail
    refine q.out.mono ?_
    rintro e w4' ⟨rfl, hw⟩
    have hw := hw.symm
    subst hw
    go_wp2
    refine bodyPost_ret (v := .agg sc.toArray) ?_ rfl ⟨rfl, X5.out⟩
    simp [results, Try.results52, go_sem, *]
end Go.Proofs.Ytfeomnkgkppdlaa
