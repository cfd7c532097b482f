/- What Clean computes, and the pieces of its walk: bounds in blocks, the row that comes out, the calls at a nil slice. -/
import Derived.Test.YtfeomnkgkppdlaaSpClone
set_option linter.unusedVariables false
set_option linter.unusedSimpArgs false
namespace Go.Proofs.Ytfeomnkgkppdlaa
open Go Go.RowKit Go.Sort Go.Lib
attribute [local go_sem ↓] run_size24 run_size49 run_size25
attribute [local simp high] run_size24x run_size49x run_size25x

/-- a bound in a block of its own -/
def BdAt (w : World) (b : Nat) (x : Bd) : Prop := w.heap[b]? = some (.cells (bdCells x).toArray 43 (0, 0))
theorem cell_of_blk {w : World} {p j : Nat} {cs : Array Value} {T : TypeId} {u : Value} (h : w.heap[p]? = some (.cells cs T (0, 0))) (hj : cs[j]? = some u) : w.cell? ⟨p, j, none⟩ = some u := by
  rw [cell_of_row w p j cs T (0, 0) h, hj]
theorem BdAt.lt {w : World} {b : Nat} {k : Bd} (h : BdAt w b k) : b < w.heap.size := by
  by_cases hlt : b < w.heap.size
  · exact hlt
  · unfold BdAt at h; rw [Array.getElem?_eq_none (by omega)] at h; exact absurd h (by simp)
theorem BdAt.cells {w : World} {b : Nat} {k : Bd} (h : BdAt w b k) : CellsAt w b 0 (bdCells k) := fun j v hj => by
  rw [Nat.zero_add]
  exact cell_of_blk h (by simpa using hj)
theorem BdAt.load {w : World} {b : Nat} {k : Bd} (h : BdAt w b k) : Sem.run Try.prog (loadCellsFrom ⟨b, 0, none⟩ 0 K25 #[]) w = .ok (bdCells k).toArray w := h.cells.load _ K25 (bdCells_length _)
theorem BdAt.chg {w w' : World} {b : Nat} {k : Bd} {S : Nat → Prop} (h : BdAt w b k) (X : Chg S w w') (hs : ¬ S b) : BdAt w' b k := by
  unfold BdAt; rw [X.block b h.lt hs]; exact h
theorem BdAt.ext {w w' : World} {b : Nat} {k : Bd} (h : BdAt w b k) (X : Ext w w') : BdAt w' b k := h.chg (X.chg fun _ => False) id
theorem BdAt.put {w : World} {b : Nat} {k : Bd} (h : BdAt w b k) (k' : Bd) : ∃ w', Sem.run Try.prog (storeCells ⟨b, 0, none⟩ (bdCells k') 0) w = .ok () w' ∧ BdAt w' b k' ∧ Chg (fun i => i = b) w w' := by
  refine ⟨_, run_storeCells_at Try.prog b 0 43 (bdCells k') 0 _ _ h (by simp [bdCells_length]) (bdCells_one k'), ?_, ?_⟩
  · unfold BdAt
    rw [setRow_heap _ _ _ _ _ _ h]
    simp [bdCells_length]
  · exact ⟨rfl, rfl, rfl, by rw [setRow_size]; exact Nat.le_refl _, fun i _ hi => setRow_other _ _ _ _ hi⟩
theorem bdAt_two (w : World) (x y : Bd) : BdAt ((w.alloc (.cells (bdCells x).toArray 43)).alloc (.cells (bdCells y).toArray 43)) w.heap.size x ∧ BdAt ((w.alloc (.cells (bdCells x).toArray 43)).alloc (.cells (bdCells y).toArray 43)) (w.heap.size + 1) y := by
  have h1 : BdAt (w.alloc (.cells (bdCells x).toArray 43)) w.heap.size x := heap_alloc_new w _
  have h2 : BdAt ((w.alloc (.cells (bdCells x).toArray 43)).alloc (.cells (bdCells y).toArray 43)) (w.alloc (.cells (bdCells x).toArray 43)).heap.size y := heap_alloc_new _ _
  rw [World.size_alloc] at h2
  exact ⟨h1.ext ((Ext.refl _).alloc _), h2⟩

/-- one more span behind a clean row -/
def joinS (out : List Sp) (s : Sp) : List Sp :=
  match out.getLast? with
  | none => out ++ [madeS (fromB s) (toB s)]
  | some l => if cmpB (fromB s) (toB l) ≤ 0 then out.dropLast ++ [madeS (fromB l) (if 0 < cmpB (toB s) (toB l) then toB s else toB l)] else out ++ [madeS (fromB s) (toB s)]
def cleanF (ss : List Sp) : List Sp := ss.foldl joinS []
theorem cleanF_snoc (ss : List Sp) (j : Nat) (hj : j < ss.length) : cleanF (ss.take (j + 1)) = joinS (cleanF (ss.take j)) ss[j] := by
  unfold cleanF; rw [List.take_succ_eq_append_getElem hj, List.foldl_append]; rfl
theorem joinS_length (out : List Sp) (s : Sp) : (joinS out s).length ≤ out.length + 1 := by
  unfold joinS
  split
  · simp
  · split
    · simp
    · simp
theorem cleanF_length (ss : List Sp) : ∀ j, j ≤ ss.length → (cleanF (ss.take j)).length ≤ j := by
  intro j
  induction j with
  | zero => intro _; simp [cleanF]
  | succ j ih =>
    intro h
    rw [cleanF_snoc ss j (by omega)]
    have := joinS_length (cleanF (ss.take j)) (ss[j]'(by omega))
    have := ih (by omega)
    omega
theorem joinS_nil (s : Sp) : joinS [] s = [madeS (fromB s) (toB s)] := rfl
theorem joinS_some (out : List Sp) (s : Sp) (h : 0 < out.length) : joinS out s = if cmpB (fromB s) (toB (out[out.length - 1]'(by omega))) ≤ 0 then out.set (out.length - 1) (madeS (fromB (out[out.length - 1]'(by omega))) (if 0 < cmpB (toB s) (toB (out[out.length - 1]'(by omega))) then toB s else toB (out[out.length - 1]'(by omega)))) else out ++ [madeS (fromB s) (toB s)] := by
  unfold joinS
  have e : out.getLast? = some (out[out.length - 1]'(by omega)) := by
    rw [List.getLast?_eq_getElem?, List.getElem?_eq_getElem]
  have sl : ∀ x, out.set (out.length - 1) x = out.dropLast ++ [x] := fun x => by
    rw [List.set_eq_take_append_cons_drop, if_pos (by omega), List.dropLast_eq_take, List.drop_eq_nil_iff.2 (by omega)]
  rw [e, sl]

/-- the row that comes out: nil, or in a block at B or behind -/
theorem own_row {w : World} {B : Nat} {v : Value} {zs : List Sp} (h : w.ownsRow B 28 49 v zs.length (flat spanCells zs)) (hp : 0 < zs.length) :
    ∃ g cap, v = .slice (some ⟨g, 0, none⟩) zs.length cap ∧ B ≤ g ∧ RowB w g cap zs ∧ cap ≤ maxLen := by
  rcases owns_shape h with ⟨_, h0⟩ | ⟨g, cap, rfl, hB, _, _, hc⟩
  · omega
  · exact ⟨g, cap, rfl, hB, (rowB_of_own h).1, hc⟩
theorem row_own {w : World} {B g cap : Nat} {zs : List Sp} (h : RowB w g cap zs) (hc : cap ≤ maxLen) (hB : B ≤ g) : w.ownsRow B 28 49 (.slice (some ⟨g, 0, none⟩) zs.length cap) zs.length (flat spanCells zs) := by
  have o := h.own hc
  refine ⟨o.1, ?_⟩
  rcases o.2 with ⟨e, _⟩ | ⟨g', cap', cur, e, h2, r⟩
  · cases e
  · cases e
    exact .inr ⟨g, cap, cur, rfl, hB, r⟩

theorem index_none (cap : Nat) (fv : Value) (w : World) : Calls Try.prog 46 #[.slice none 0 cap, fv] w fun e w' => e = .returned (.int .i64 (-1)) ∧ w = w' := by
  go_enter Try.func46, Try.ntmps46
  go_wp2
  go_loopg [8] 0 (fun kx s8 wr => s8 = .int .i64 0 ∧ wr = w)
  case atStart => exact ⟨rfl, rfl⟩
  case round =>
    obtain ⟨rfl, rfl⟩ := hrel
    go_wp2
    go_ret
    exact ⟨rfl, rfl⟩
theorem delete_none (cap : Nat) (fv : Value) (w : World) : Calls Try.prog 27 #[.slice none 0 cap, fv] w fun e w' => e = .returned (.slice none 0 cap) ∧ w = w' := by
  have ix := Lib.hid (index_none cap fv w)
  go_enter Try.func27, Try.ntmps27
  go_wp2_with fail
  refine ix.out.mono ?_
  rintro e w1 ⟨rfl, rfl⟩
  go_wp2
  go_ret
  exact ⟨rfl, rfl⟩
end Go.Proofs.Ytfeomnkgkppdlaa
