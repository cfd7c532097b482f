/- A row of spans in a block of the call's own: stores into it, the clearing of its end. -/
import Derived.Test.YtfeomnkgkppdlaaSpIdx
import Derived.Lib.SliceRun
set_option linter.unusedVariables false
set_option linter.unusedSimpArgs false
namespace Go.Proofs.Ytfeomnkgkppdlaa
open Go Go.RowKit Go.Sort Go.Lib

def RowB (w : World) (g cap : Nat) (zs : List Sp) : Prop := ∃ tail : List Value, w.heap[g]? = some (.cells (flat spanCells zs ++ tail).toArray 28 (0, 0)) ∧ (flat spanCells zs ++ tail).length = cap * 49
theorem flat_take (zs : List Sp) (i : Nat) (hi : i ≤ zs.length) : (flat spanCells zs).take (i * 49) = flat spanCells (zs.take i) := by
  have e := flat_append (enc := spanCells) (zs.take i) (zs.drop i)
  rw [List.take_append_drop] at e
  rw [e, List.take_append_of_le_length (by rw [flat_length spanCells_length, List.length_take]; omega), List.take_of_length_le (by rw [flat_length spanCells_length, List.length_take]; omega)]
theorem flat_drop (zs : List Sp) (i : Nat) (hi : i ≤ zs.length) : (flat spanCells zs).drop (i * 49) = flat spanCells (zs.drop i) := by
  have e := flat_append (enc := spanCells) (zs.take i) (zs.drop i)
  rw [List.take_append_drop] at e
  rw [e, List.drop_append_of_le_length (by rw [flat_length spanCells_length, List.length_take]; omega), List.drop_eq_nil_iff.2 (by rw [flat_length spanCells_length, List.length_take]; omega)]
  rfl
theorem RowB.lt {w : World} {g cap : Nat} {zs : List Sp} (h : RowB w g cap zs) : g < w.heap.size := by
  obtain ⟨t, h, _⟩ := h
  by_cases hlt : g < w.heap.size
  · exact hlt
  · rw [Array.getElem?_eq_none (by omega)] at h; exact absurd h (by simp)
theorem RowB.cap {w : World} {g cap : Nat} {zs : List Sp} (h : RowB w g cap zs) : zs.length ≤ cap := by
  obtain ⟨t, _, h⟩ := h
  rw [List.length_append, flat_length spanCells_length] at h
  omega
theorem RowB.chg {w w' : World} {g cap : Nat} {zs : List Sp} {S : Nat → Prop} (h : RowB w g cap zs) (X : Chg S w w') (hS : ¬ S g) : RowB w' g cap zs := by
  have hl := h.lt
  obtain ⟨t, h1, h2⟩ := h
  exact ⟨t, by rw [X.block g hl hS]; exact h1, h2⟩
theorem RowB.ext {w w' : World} {g cap : Nat} {zs : List Sp} (h : RowB w g cap zs) (X : Ext w w') : RowB w' g cap zs := h.chg (X.chg fun _ => False) id
theorem RowB.at {w : World} {g cap : Nat} {zs : List Sp} (h : RowB w g cap zs) : SpansAt w g 0 zs := by
  obtain ⟨t, h, _⟩ := h
  refine rowAt_of_flat (enc := spanCells) (k := 49) spanCells_length fun j v hj => ?_
  rw [Nat.zero_add]
  refine (cell_of_row w g j _ 28 (0, 0) h).trans ?_
  have := (List.getElem?_eq_some_iff.1 hj).1
  rw [List.getElem?_toArray, List.getElem?_append_left this]
  exact hj
theorem RowB.take {w : World} {g cap : Nat} {zs : List Sp} (h : RowB w g cap zs) (i : Nat) : RowB w g cap (zs.take i) := by
  obtain ⟨t, h1, h2⟩ := h
  refine ⟨flat spanCells (zs.drop i) ++ t, ?_, ?_⟩
  · rw [← List.append_assoc, ← flat_append, List.take_append_drop]; exact h1
  · rw [← List.append_assoc, ← flat_append, List.take_append_drop]; exact h2
theorem RowB.put {w : World} {g cap : Nat} {zs : List Sp} (h : RowB w g cap zs) {i : Nat} (hi : i < zs.length) (s : Sp) :
    ∃ w', Sem.run Try.prog (storeCells ⟨g, i * K49, none⟩ (spanCells s) 0) w = .ok () w' ∧ RowB w' g cap (zs.set i s) ∧ Chg (fun j => j = g) w w' := by
  have hl := h.lt
  obtain ⟨t, h1, h2⟩ := h
  have hf := flat_length spanCells_length zs
  have hm : i * 49 + 49 ≤ zs.length * 49 := by omega
  have e := run_storeCells_at Try.prog g (i * 49) 28 (spanCells s) 0 _ w h1 (by rw [List.size_toArray, List.length_append, hf, spanCells_length]; omega) (spanCells_one s)
  refine ⟨_, e, ⟨t, ?_, ?_⟩, ⟨rfl, rfl, rfl, by rw [setRow_size]; exact Nat.le_refl _, fun j _ hj => setRow_other _ _ _ _ hj⟩⟩
  · rw [setRow_heap _ _ _ _ _ _ h1]
    congr 3
    rw [spanCells_length, Nat.add_zero, List.toList_toArray, List.take_append_of_le_length (by rw [hf]; omega), List.drop_append_of_le_length (by rw [hf]; omega), flat_take _ _ (by omega), show i * 49 + 49 = (i + 1) * 49 by omega, flat_drop _ _ (by omega)]
    rw [List.set_eq_take_append_cons_drop, if_pos hi, flat_append, flat_cons]
    simp
  · rw [List.length_append, flat_length spanCells_length, List.length_set, ← h2, List.length_append, hf]
theorem clear_run {w : World} {g i m c : Nat} {cur : Array Value} (ty : TypeId) (h : w.heap[g]? = some (.cells cur 28 (0, 0))) (hm : 0 < m) (hi : i * 49 + m * 49 ≤ cur.size) :
    ∃ cs' : List Value, cs'.length = m * 49 ∧ (Builtin.clear_ #[22] ty #[.slice (some ⟨g, i * 49, none⟩) m c]).run Try.prog w = .ok (.tuple #[]) (w.setRow g (cur.toList.take (i * 49) ++ cs' ++ cur.toList.drop (i * 49 + m * 49)).toArray) := by
  have hz : (Builtin.zeroCells (spanCells zeroSp).toArray m).toList.length = m * 49 := by simp [Builtin.zeroCells, spanCells_length]
  have h1 : ∀ v ∈ (Builtin.zeroCells (spanCells zeroSp).toArray m).toList, v.oneCell' = true := by
    intro v hv
    simp only [Builtin.zeroCells, Array.toList_map, List.mem_map] at hv
    obtain ⟨j, _, rfl⟩ := hv
    refine spanCells_one zeroSp _ ?_
    rw [List.size_toArray, spanCells_length]
    have : j % 49 < (spanCells zeroSp).length := by rw [spanCells_length]; omega
    rw [getElem!_pos _ _ (by simpa using this)]
    simp
  have e := run_storeCells_at Try.prog g (i * 49) 28 _ 0 cur w h (by rw [hz]; omega) h1
  refine ⟨_, hz, ?_⟩
  obtain ⟨k, rfl⟩ : ∃ k, m = k + 1 := ⟨m - 1, by omega⟩
  rw [hz, Nat.add_zero] at e
  have zs := zero_span
  simp [Builtin.clear_, run_underlying Try.underlying22, zs, Value.cells]
  rw [e]
  simp only [Result.andThen, Nat.add_zero, List.append_assoc]
theorem RowB.clear {w : World} {g cap : Nat} {zs : List Sp} (h : RowB w g cap zs) (ty : TypeId) {i c : Nat} (hi : i < zs.length) :
    ∃ w', (Builtin.clear_ #[22] ty #[.slice (some ⟨g, i * 49, none⟩) (zs.length - i) c]).run Try.prog w = .ok (.tuple #[]) w' ∧ RowB w' g cap (zs.take i) ∧ Chg (fun j => j = g) w w' := by
  obtain ⟨t, h1, h2⟩ := h
  have hf := flat_length spanCells_length zs
  obtain ⟨cs, hl, e⟩ := clear_run (c := c) ty h1 (show 0 < zs.length - i by omega) (i := i) (by rw [List.size_toArray, List.length_append, hf]; omega)
  refine ⟨_, e, ⟨cs ++ t, ?_, ?_⟩, ⟨rfl, rfl, rfl, by rw [setRow_size]; exact Nat.le_refl _, fun j _ hj => setRow_other _ _ _ _ hj⟩⟩
  · rw [setRow_heap _ _ _ _ _ _ h1]
    congr 3
    rw [List.toList_toArray, List.take_append_of_le_length (by rw [hf]; omega), flat_take _ _ (by omega), show i * 49 + (zs.length - i) * 49 = zs.length * 49 by omega, ← hf, List.drop_left, List.append_assoc]
  · rw [List.length_append, List.length_append, flat_length spanCells_length, hl, List.length_take, ← h2, List.length_append, hf]
    omega
end Go.Proofs.Ytfeomnkgkppdlaa
