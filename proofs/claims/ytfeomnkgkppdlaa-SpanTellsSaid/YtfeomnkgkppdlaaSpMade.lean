/- made and bounds, by their contracts. -/
import Derived.Test.YtfeomnkgkppdlaaSpCmp
set_option linter.unusedVariables false
set_option linter.unusedSimpArgs false
namespace Go.Proofs.Ytfeomnkgkppdlaa
open Go Go.RowKit Go.Sort Go.Lib
attribute [local go_sem ↓] run_size24 run_size49 run_size25
attribute [local simp high] run_size24x run_size49x run_size25x
attribute [local go_sem ↓] to_span1 to_span2 to_span3 to_key1 to_spans1 to_keys1 to_bd0 to_bd1
attribute [local simp] is_bFrEn is_bTo is_bEn is_bFrTo is_bSpans1 is_bKeys1 run_bFrEn run_bTo run_bEn run_bFrTo run_bSpans1 run_bKeys1 is_bBdKey is_bBdEn is_bSp3 run_bBdKey run_bBdEn run_bBd0 run_bSp3

set_option maxHeartbeats 400000 in
theorem made_any (a b : Bd) (w : World) :
    Calls Try.prog 35 #[bdV a, bdV b] w fun e w' => e = .returned (spanV (madeS a b)) ∧ Ext w w' := by
  have mixed := Try.mixed
  have k1 : ¬ K24 = 0 := by decide
  have k2 : ¬ K49 = 0 := by decide
  have k3 : ¬ K25 = 0 := by decide
  obtain ⟨C1, C2⟩ := two_new w (bdCells a) (bdCells b) 43 43
  have l0 : ∀ cs, ((w.alloc (.cells (bdCells a).toArray 43)).alloc (.cells (bdCells b).toArray 43)).alloc (.cells cs 28) = ((w.alloc (.cells (bdCells a).toArray 43)).alloc (.cells (bdCells b).toArray 43)).alloc (.cells cs 28) := fun _ => rfl
  have l1 : ∀ cs, Sem.run Try.prog (loadCellsFrom ⟨w.heap.size, 0, none⟩ 0 K24 #[]) (((w.alloc (.cells (bdCells a).toArray 43)).alloc (.cells (bdCells b).toArray 43)).alloc (.cells cs 28)) = .ok (keyCells a.key).toArray (((w.alloc (.cells (bdCells a).toArray 43)).alloc (.cells (bdCells b).toArray 43)).alloc (.cells cs 28)) := fun cs =>
    ((bdKey C1).alloc _).load _ K24 (keyCells_length _)
  have l2 : ∀ cs, Sem.run Try.prog (loadCellsFrom ⟨w.heap.size + 1, 0, none⟩ 0 K24 #[]) (((w.alloc (.cells (bdCells a).toArray 43)).alloc (.cells (bdCells b).toArray 43)).alloc (.cells cs 28)) = .ok (keyCells b.key).toArray (((w.alloc (.cells (bdCells a).toArray 43)).alloc (.cells (bdCells b).toArray 43)).alloc (.cells cs 28)) := fun cs =>
    ((bdKey C2).alloc _).load _ K24 (keyCells_length _)
  have l3 : ∀ cs, (((w.alloc (.cells (bdCells a).toArray 43)).alloc (.cells (bdCells b).toArray 43)).alloc (.cells cs 28)).cell? ⟨w.heap.size + 1, 24, none⟩ = some (.bool b.en) := fun cs => by
    have := bdEn (C2.alloc (.cells cs 28)); rwa [Nat.zero_add] at this
  have st := fun cs (h : cs.size = 49) => store_last Try.prog (spanCells ⟨a.key, b.key, b.en⟩) (spanCells_one _) ((w.alloc (.cells (bdCells a).toArray 43)).alloc (.cells (bdCells b).toArray 43)) cs 28 (by rw [h, spanCells_length])
  have l4 := (cellsAt_new ((w.alloc (.cells (bdCells a).toArray 43)).alloc (.cells (bdCells b).toArray 43)) (spanCells ⟨a.key, b.key, b.en⟩) 28).load Try.prog K49 (spanCells_length _)
  simp only [World.size_alloc] at st l4
  have sl1 : (spanCells ⟨a.key, b.key, b.en⟩).length = 49 := spanCells_length _
  have sl2 : ¬ (spanCells ⟨a.key, b.key, b.en⟩).length ≠ K49 := by rw [sl1]; decide
  have E0 : Hid (Ext w (((w.alloc (.cells (bdCells a).toArray 43)).alloc (.cells (bdCells b).toArray 43)).alloc (.cells (spanCells ⟨a.key, b.key, b.en⟩).toArray 28))) := (((Ext.refl w).alloc _).alloc _).alloc _
  clear C1 C2 l0
  unfold bdV
  go_enter Try.func35, Try.ntmps35
  go_wp2
  refine bodyPost_ret (v := spanV (madeS a b)) ?_ rfl ⟨rfl, E0.out⟩
  simp [results, Try.results35, go_sem, spanV, madeS, *]

theorem bounds_facts (f t : Key) (en : Bool) (w : World) (c1 c2 : Array Value) (W : World) (hW : W = ((w.alloc (.cells (spanCells ⟨f, t, en⟩).toArray 28)).alloc (.cells c1 43)).alloc (.cells c2 43)) :
    Sem.run Try.prog (loadCellsFrom ⟨w.heap.size, 0, none⟩ 0 K24 #[]) W = .ok (keyCells f).toArray W ∧ Sem.run Try.prog (loadCellsFrom ⟨w.heap.size, 24, none⟩ 0 K24 #[]) W = .ok (keyCells t).toArray W ∧ W.cell? ⟨w.heap.size, 48, none⟩ = some (.bool en) := by
  subst hW
  have C : CellsAt (((w.alloc (.cells (spanCells ⟨f, t, en⟩).toArray 28)).alloc (.cells c1 43)).alloc (.cells c2 43)) w.heap.size 0 (spanCells ⟨f, t, en⟩) := ((cellsAt_new w (spanCells ⟨f, t, en⟩) 28).alloc _).alloc _
  refine ⟨(spanFr C).load _ K24 (keyCells_length _), ?_, ?_⟩
  · have := (spanTo C).load Try.prog K24 (keyCells_length _); rwa [Nat.zero_add] at this
  · have := spanEn C; rwa [Nat.zero_add] at this
theorem bounds_store (S : Obj) (x : Bd) (w : World) (c1 c2 : Array Value) :
    (c1.size = 25 → Sem.run Try.prog (storeCells ⟨w.heap.size + 1, 0, none⟩ (bdCells x) 0) (((w.alloc S).alloc (.cells c1 43)).alloc (.cells c2 43)) = .ok () (((w.alloc S).alloc (.cells (bdCells x).toArray 43)).alloc (.cells c2 43))) ∧
    (c2.size = 25 → Sem.run Try.prog (storeCells ⟨w.heap.size + 1 + 1, 0, none⟩ (bdCells x) 0) (((w.alloc S).alloc (.cells c1 43)).alloc (.cells c2 43)) = .ok () (((w.alloc S).alloc (.cells c1 43)).alloc (.cells (bdCells x).toArray 43))) := by
  constructor
  · intro h
    have := store_prev Try.prog (bdCells x) (bdCells_one x) (w.alloc S) c1 43 (.cells c2 43) (by rw [h, bdCells_length])
    simp only [World.size_alloc] at this; exact this
  · intro h
    have := store_last Try.prog (bdCells x) (bdCells_one x) ((w.alloc S).alloc (.cells c1 43)) c2 43 (by rw [h, bdCells_length])
    simp only [World.size_alloc] at this; exact this
theorem bounds_load (S : Obj) (x y : Bd) (w : World) :
    Sem.run Try.prog (loadCellsFrom ⟨w.heap.size + 1, 0, none⟩ 0 K25 #[]) (((w.alloc S).alloc (.cells (bdCells x).toArray 43)).alloc (.cells (bdCells y).toArray 43)) = .ok (bdCells x).toArray (((w.alloc S).alloc (.cells (bdCells x).toArray 43)).alloc (.cells (bdCells y).toArray 43)) ∧
    Sem.run Try.prog (loadCellsFrom ⟨w.heap.size + 1 + 1, 0, none⟩ 0 K25 #[]) (((w.alloc S).alloc (.cells (bdCells x).toArray 43)).alloc (.cells (bdCells y).toArray 43)) = .ok (bdCells y).toArray (((w.alloc S).alloc (.cells (bdCells x).toArray 43)).alloc (.cells (bdCells y).toArray 43)) := by
  obtain ⟨h1, h2⟩ := two_new (w.alloc S) (bdCells x) (bdCells y) 43 43
  simp only [World.size_alloc] at h1 h2
  exact ⟨h1.load _ K25 (bdCells_length _), h2.load _ K25 (bdCells_length _)⟩

set_option maxHeartbeats 1000000 in
theorem bounds_any (s : Sp) (w : World) :
    Calls Try.prog 30 #[spanV s] w fun e w' => e = .returned (.tuple #[bdV (fromB s), bdV (toB s)]) ∧ Ext w w' := by
  have mixed := Try.mixed
  have k1 : ¬ K24 = 0 := by decide
  have k2 : ¬ K49 = 0 := by decide
  have k3 : ¬ K25 = 0 := by decide
  obtain ⟨f, t, en⟩ := s
  have fa := fun c1 c2 => (bounds_facts f t en w c1 c2 _ rfl).1
  have fb := fun c1 c2 => (bounds_facts f t en w c1 c2 _ rfl).2.1
  have fc := fun c1 c2 => (bounds_facts f t en w c1 c2 _ rfl).2.2
  have sa := fun x c1 c2 => (bounds_store (.cells (spanCells ⟨f, t, en⟩).toArray 28) x w c1 c2).1
  have sb := fun x c1 c2 => (bounds_store (.cells (spanCells ⟨f, t, en⟩).toArray 28) x w c1 c2).2
  have la := fun x y => (bounds_load (.cells (spanCells ⟨f, t, en⟩).toArray 28) x y w).1
  have lb := fun x y => (bounds_load (.cells (spanCells ⟨f, t, en⟩).toArray 28) x y w).2
  have sl1 : ∀ x, (bdCells x).length = 25 := bdCells_length
  have sl2 : ∀ x, ¬ (bdCells x).length ≠ K25 := fun x => by rw [sl1]; decide
  unfold spanV
  cases en with
  | true =>
    go_enter Try.func30, Try.ntmps30
    go_wp2
    refine bodyPost_ret (v := .tuple #[bdV (fromB ⟨f, t, true⟩), bdV (toB ⟨f, t, true⟩)]) ?_ rfl ⟨rfl, (((Ext.refl w).alloc _).alloc _).alloc _⟩
    simp [results, Try.results30, go_sem, spanV, bdV, fromB, toB, *]
  | false =>
    have fa' : ∀ c1 c2, Sem.run Try.prog (loadCellsFrom ⟨w.heap.size, 0, none⟩ 0 K24 #[]) (((w.alloc (.cells (spanCells ⟨f, t, false⟩).toArray 28)).alloc (.cells c1 43)).alloc (.cells c2 43)).drew = .ok (keyCells f).toArray (((w.alloc (.cells (spanCells ⟨f, t, false⟩).toArray 28)).alloc (.cells c1 43)).alloc (.cells c2 43)).drew := fun c1 c2 => (bounds_facts f t false w.drew c1 c2 _ rfl).1
    have fb' : ∀ c1 c2, Sem.run Try.prog (loadCellsFrom ⟨w.heap.size, 24, none⟩ 0 K24 #[]) (((w.alloc (.cells (spanCells ⟨f, t, false⟩).toArray 28)).alloc (.cells c1 43)).alloc (.cells c2 43)).drew = .ok (keyCells t).toArray (((w.alloc (.cells (spanCells ⟨f, t, false⟩).toArray 28)).alloc (.cells c1 43)).alloc (.cells c2 43)).drew := fun c1 c2 => (bounds_facts f t false w.drew c1 c2 _ rfl).2.1
    have sa' : ∀ x c1 c2, c1.size = 25 → Sem.run Try.prog (storeCells ⟨w.heap.size + 1, 0, none⟩ (bdCells x) 0) (((w.alloc (.cells (spanCells ⟨f, t, false⟩).toArray 28)).alloc (.cells c1 43)).alloc (.cells c2 43)).drew = .ok () (((w.alloc (.cells (spanCells ⟨f, t, false⟩).toArray 28)).alloc (.cells (bdCells x).toArray 43)).alloc (.cells c2 43)).drew := fun x c1 c2 => (bounds_store (.cells (spanCells ⟨f, t, false⟩).toArray 28) x w.drew c1 c2).1
    have sb' : ∀ x c1 c2, c2.size = 25 → Sem.run Try.prog (storeCells ⟨w.heap.size + 1 + 1, 0, none⟩ (bdCells x) 0) (((w.alloc (.cells (spanCells ⟨f, t, false⟩).toArray 28)).alloc (.cells c1 43)).alloc (.cells c2 43)).drew = .ok () (((w.alloc (.cells (spanCells ⟨f, t, false⟩).toArray 28)).alloc (.cells c1 43)).alloc (.cells (bdCells x).toArray 43)).drew := fun x c1 c2 => (bounds_store (.cells (spanCells ⟨f, t, false⟩).toArray 28) x w.drew c1 c2).2
    have la' : ∀ x y, Sem.run Try.prog (loadCellsFrom ⟨w.heap.size + 1, 0, none⟩ 0 K25 #[]) (((w.alloc (.cells (spanCells ⟨f, t, false⟩).toArray 28)).alloc (.cells (bdCells x).toArray 43)).alloc (.cells (bdCells y).toArray 43)).drew = .ok (bdCells x).toArray (((w.alloc (.cells (spanCells ⟨f, t, false⟩).toArray 28)).alloc (.cells (bdCells x).toArray 43)).alloc (.cells (bdCells y).toArray 43)).drew := fun x y => (bounds_load (.cells (spanCells ⟨f, t, false⟩).toArray 28) x y w.drew).1
    have lb' : ∀ x y, Sem.run Try.prog (loadCellsFrom ⟨w.heap.size + 1 + 1, 0, none⟩ 0 K25 #[]) (((w.alloc (.cells (spanCells ⟨f, t, false⟩).toArray 28)).alloc (.cells (bdCells x).toArray 43)).alloc (.cells (bdCells y).toArray 43)).drew = .ok (bdCells y).toArray (((w.alloc (.cells (spanCells ⟨f, t, false⟩).toArray 28)).alloc (.cells (bdCells x).toArray 43)).alloc (.cells (bdCells y).toArray 43)).drew := fun x y => (bounds_load (.cells (spanCells ⟨f, t, false⟩).toArray 28) x y w.drew).2
    clear fa fb sa sb la lb
    have k4 : (25 = K25) = True := by decide
    go_enter Try.func30, Try.ntmps30
    go_wp2
    go_region
    all_goals go_wp2
    all_goals (refine bodyPost_ret (v := .tuple #[bdV (fromB ⟨f, t, false⟩), bdV (toB ⟨f, t, false⟩)]) ?_ rfl ⟨rfl, ((((Ext.refl w).alloc _).alloc _).alloc _).drew⟩)
    all_goals simp [results, Try.results30, go_sem, spanV, bdV, fromB, toB, *]
end Go.Proofs.Ytfeomnkgkppdlaa
