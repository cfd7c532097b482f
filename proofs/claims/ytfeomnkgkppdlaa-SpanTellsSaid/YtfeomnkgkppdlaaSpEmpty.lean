/- The closure of Clean that tells an empty span, by its contract; two bounds in two new blocks. -/
import Derived.Test.YtfeomnkgkppdlaaSpMade
set_option linter.unusedVariables false
set_option linter.unusedSimpArgs false
namespace Go.Proofs.Ytfeomnkgkppdlaa
open Go Go.RowKit Go.Sort Go.Lib
attribute [local go_sem ↓] run_size24 run_size49 run_size25
attribute [local simp high] run_size24x run_size49x run_size25x

theorem two_store (x : Bd) (w : World) (c1 c2 : Array Value) :
    (c1.size = 25 → Sem.run Try.prog (storeCells ⟨w.heap.size, 0, none⟩ (bdCells x) 0) ((w.alloc (.cells c1 43)).alloc (.cells c2 43)) = .ok () ((w.alloc (.cells (bdCells x).toArray 43)).alloc (.cells c2 43))) ∧
    (c2.size = 25 → Sem.run Try.prog (storeCells ⟨w.heap.size + 1, 0, none⟩ (bdCells x) 0) ((w.alloc (.cells c1 43)).alloc (.cells c2 43)) = .ok () ((w.alloc (.cells c1 43)).alloc (.cells (bdCells x).toArray 43))) := by
  constructor
  · intro h
    exact store_prev Try.prog (bdCells x) (bdCells_one x) w c1 43 (.cells c2 43) (by rw [h, bdCells_length])
  · intro h
    have := store_last Try.prog (bdCells x) (bdCells_one x) (w.alloc (.cells c1 43)) c2 43 (by rw [h, bdCells_length])
    simp only [World.size_alloc] at this; exact this
theorem two_load (x y : Bd) (w : World) :
    Sem.run Try.prog (loadCellsFrom ⟨w.heap.size, 0, none⟩ 0 K25 #[]) ((w.alloc (.cells (bdCells x).toArray 43)).alloc (.cells (bdCells y).toArray 43)) = .ok (bdCells x).toArray ((w.alloc (.cells (bdCells x).toArray 43)).alloc (.cells (bdCells y).toArray 43)) ∧
    Sem.run Try.prog (loadCellsFrom ⟨w.heap.size + 1, 0, none⟩ 0 K25 #[]) ((w.alloc (.cells (bdCells x).toArray 43)).alloc (.cells (bdCells y).toArray 43)) = .ok (bdCells y).toArray ((w.alloc (.cells (bdCells x).toArray 43)).alloc (.cells (bdCells y).toArray 43)) := by
  obtain ⟨h1, h2⟩ := two_new w (bdCells x) (bdCells y) 43 43
  exact ⟨h1.load _ K25 (bdCells_length _), h2.load _ K25 (bdCells_length _)⟩

/-- a span of no key -/
def emptyS (s : Sp) : Bool := decide (0 ≤ cmpB (fromB s) (toB s))
theorem span_load (s : Sp) (w : World) : Sem.run Try.prog (loadCellsFrom ⟨w.heap.size, 0, none⟩ 0 K49 #[]) (w.alloc (.cells (spanCells s).toArray 28)) = .ok (spanCells s).toArray (w.alloc (.cells (spanCells s).toArray 28)) :=
  (cellsAt_new w (spanCells s) 28).load _ K49 (spanCells_length _)

set_option maxHeartbeats 1000000 in
theorem empty_any (s : Sp) (w : World) :
    Calls Try.prog 29 #[spanV s] w fun e w' => e = .returned (.bool (emptyS s)) ∧ Ext w w' := by
  have mixed := Try.mixed
  have k1 : ¬ K24 = 0 := by decide
  have k2 : ¬ K49 = 0 := by decide
  have k3 : ¬ K25 = 0 := by decide
  have k4 : (25 = K25) = True := by decide
  have l0 := span_load s w
  have sl1 : ∀ x, (bdCells x).length = 25 := bdCells_length
  have sl2 : ∀ x, ¬ (bdCells x).length ≠ K25 := fun x => by rw [sl1]; decide
  have bo := Lib.hid (bounds_any s (w.alloc (.cells (spanCells s).toArray 28)))
  unfold spanV at bo ⊢
  unfold bdV at bo
  go_enter Try.func29, Try.ntmps29
  go_wp2_with fail
  refine bo.out.mono ?_
  rintro e w1 ⟨rfl, X1⟩
  have X1 : Hid (Ext w w1) := ((Ext.refl w).alloc _).trans X1
  clear bo l0
  have sa := fun x c1 c2 => (two_store x w1 c1 c2).1
  have sb := fun x c1 c2 => (two_store x w1 c1 c2).2
  have la := fun x y => (two_load x y w1).1
  have lb := fun x y => (two_load x y w1).2
  have co := Lib.hid (compare_any (fromB s) (toB s) ((w1.alloc (.cells (bdCells (fromB s)).toArray 43)).alloc (.cells (bdCells (toB s)).toArray 43)))
  unfold bdV at co
  go_wp2_with fail
  refine co.out.mono ?_
  rintro e w2 ⟨rfl, X2⟩
  have X2 : Hid (Ext w w2) := ((X1.out.alloc _).alloc _).trans X2
  clear co sa sb la lb
  have R : Hid (emptyS s = decide (0 ≤ cmpB (fromB s) (toB s))) := rfl
  generalize cmpB (fromB s) (toB s) = c at R ⊢
  go_wp2
  go_ret
  refine ⟨?_, X2.out⟩
  rw [R.out]
  rfl
end Go.Proofs.Ytfeomnkgkppdlaa
