/- compare of two bounds, and the two closures of Clean, by their contracts. -/
import Derived.Test.YtfeomnkgkppdlaaSpBd
set_option linter.unusedVariables false
set_option linter.unusedSimpArgs false
namespace Go.Proofs.Ytfeomnkgkppdlaa
open Go Go.RowKit Go.Sort Go.Lib
attribute [local go_sem ↓] run_size24 run_size49 run_size25
attribute [local simp high] run_size24x run_size49x run_size25x

theorem two_new (w : World) (u v : List Value) (T U : TypeId) : CellsAt ((w.alloc (.cells u.toArray T)).alloc (.cells v.toArray U)) w.heap.size 0 u ∧ CellsAt ((w.alloc (.cells u.toArray T)).alloc (.cells v.toArray U)) (w.heap.size + 1) 0 v := by
  refine ⟨(cellsAt_new w u T).alloc _, ?_⟩
  have h2 := cellsAt_new (w.alloc (.cells u.toArray T)) v U
  simp only [World.size_alloc] at h2; exact h2
theorem retI {a b : Int} (h : a = b) : Ending.returned (.int .i64 a) = .returned (.int .i64 b) := by rw [h]

set_option maxHeartbeats 400000 in
theorem compare_any (a b : Bd) (w : World) :
    Calls Try.prog 31 #[bdV a, bdV b] w fun e w' => e = .returned (.int .i64 (cmpB a b)) ∧ Ext w w' := by
  have mixed := Try.mixed
  have k1 : ¬ K24 = 0 := by decide
  have k2 : ¬ K49 = 0 := by decide
  have k3 : ¬ K25 = 0 := by decide
  obtain ⟨C1, C2⟩ := two_new w (bdCells a) (bdCells b) 43 43
  have b1 := bdEn C1
  have b2 := bdEn C2
  rw [Nat.zero_add] at b1 b2
  have hc : ∀ n os, Calls Try.prog 34 #[.slice (some ⟨w.heap.size, 0, none⟩) 24 24, .slice (some ⟨w.heap.size + 1, 0, none⟩) 24 24] (grow (((w.alloc (.cells (bdCells a).toArray 43)).alloc (.cells (bdCells b).toArray 43)).drewN n) os)
      fun e w' => e = .returned (.int .i64 (cmpK a.key b.key)) ∧ Ext (grow (((w.alloc (.cells (bdCells a).toArray 43)).alloc (.cells (bdCells b).toArray 43)).drewN n) os) w' := by
    intro n os
    have h := keysCompare a.key b.key w.heap.size 0 24 (w.heap.size + 1) 0 24 _ ((bdKey C1).grow n os) ((bdKey C2).grow n os)
    exact h.mono fun e w' ⟨he, hw⟩ => ⟨he, by rw [← hw]; exact Ext.refl _⟩
  have HC := Lib.hid hc
  have E0 : Hid (Ext w ((w.alloc (.cells (bdCells a).toArray 43)).alloc (.cells (bdCells b).toArray 43))) := ((Ext.refl w).alloc _).alloc _
  clear hc C1 C2
  have R : Hid (cmpB a b = (if a.en then (if b.en then 0 else 1) else if b.en then -1 else cmpK a.key b.key)) := rfl
  unfold bdV
  generalize a.en = ea at *
  generalize b.en = eb at *
  go_enter Try.func31, Try.ntmps31
  cases ea <;> cases eb
  · go_wp2
    go_quiet_grown ((go_at_call 34; exact Calls.grown_ext (HC.out _ _)))
    go_wp2
    go_ret
    exact ⟨retI R.out.symm, E0.out.grow nq osq⟩
  all_goals go_wp2
  all_goals go_ret
  all_goals exact ⟨retI R.out.symm, E0.out⟩

/-- the order of two spans by their beginnings -/
def cmpF (a b : Sp) : Int := cmpK a.fr b.fr
theorem spanFr {w : World} {b off : Nat} {s : Sp} (h : CellsAt w b off (spanCells s)) : CellsAt w b off (keyCells s.fr) := by
  unfold spanCells at h; exact h.left.left
theorem spanTo {w : World} {b off : Nat} {s : Sp} (h : CellsAt w b off (spanCells s)) : CellsAt w b (off + 24) (keyCells s.to) := by
  unfold spanCells at h; have := h.left.right; rwa [keyCells_length] at this
theorem spanEn {w : World} {b off : Nat} {s : Sp} (h : CellsAt w b off (spanCells s)) : w.cell? ⟨b, off + 48, none⟩ = some (.bool s.en) := by
  unfold spanCells at h; have := h.right 0 _ rfl; rwa [List.length_append, keyCells_length, keyCells_length] at this
set_option maxHeartbeats 400000 in
theorem byFrom_any (a b : Sp) (w : World) :
    Calls Try.prog 33 #[spanV a, spanV b] w fun e w' => e = .returned (.int .i64 (cmpF a b)) ∧ Ext w w' := by
  have mixed := Try.mixed
  have k1 : ¬ K24 = 0 := by decide
  have k2 : ¬ K49 = 0 := by decide
  obtain ⟨C1, C2⟩ := two_new w (spanCells a) (spanCells b) 28 28
  have hc : ∀ n os, Calls Try.prog 34 #[.slice (some ⟨w.heap.size, 0, none⟩) 24 24, .slice (some ⟨w.heap.size + 1, 0, none⟩) 24 24] (grow (((w.alloc (.cells (spanCells a).toArray 28)).alloc (.cells (spanCells b).toArray 28)).drewN n) os)
      fun e w' => e = .returned (.int .i64 (cmpK a.fr b.fr)) ∧ Ext (grow (((w.alloc (.cells (spanCells a).toArray 28)).alloc (.cells (spanCells b).toArray 28)).drewN n) os) w' := by
    intro n os
    have h := keysCompare a.fr b.fr w.heap.size 0 24 (w.heap.size + 1) 0 24 _ ((spanFr C1).grow n os) ((spanFr C2).grow n os)
    exact h.mono fun e w' ⟨he, hw⟩ => ⟨he, by rw [← hw]; exact Ext.refl _⟩
  have HC := Lib.hid hc
  have E0 : Hid (Ext w ((w.alloc (.cells (spanCells a).toArray 28)).alloc (.cells (spanCells b).toArray 28))) := ((Ext.refl w).alloc _).alloc _
  clear hc C1 C2
  unfold spanV
  go_enter Try.func33, Try.ntmps33
  go_wp2
  go_quiet_grown ((go_at_call 34; exact Calls.grown_ext (HC.out _ _)))
  go_wp2
  go_ret
  exact ⟨rfl, E0.out.grow nq osq⟩

/- a store of whole cells into one of the two newest blocks -/
theorem store_last (P : Program) (vs : List Value) (h1 : ∀ v ∈ vs, v.oneCell' = true) (W : World) (cs : Array Value) (T : TypeId) (h : cs.size = vs.length) :
    Sem.run P (storeCells ⟨W.heap.size, 0, none⟩ vs 0) (W.alloc (.cells cs T)) = .ok () (W.alloc (.cells vs.toArray T)) := store_whole P vs h1 W cs T h
theorem setRow_alloc2 (W : World) (cs cs' : Array Value) (T : TypeId) (o : Obj) : ((W.alloc (.cells cs T)).alloc o).setRow W.heap.size cs' = (W.alloc (.cells cs' T)).alloc o := by
  show ({ W with heap := ((W.heap.push _).push o).modify W.heap.size _ } : World) = { W with heap := (W.heap.push _).push o }
  congr 1
  apply Array.ext_getElem?
  intro i
  rw [Array.getElem?_modify, Array.getElem?_push, Array.getElem?_push, Array.getElem?_push, Array.getElem?_push]
  simp only [Array.size_push]
  by_cases h : W.heap.size = i
  · subst h; simp
  · rw [if_neg h]
    by_cases h2 : i = W.heap.size + 1
    · simp [h2]
    · rw [if_neg h2, if_neg h2, if_neg (fun e => h e.symm), if_neg (fun e => h e.symm)]
theorem store_prev (P : Program) (vs : List Value) (h1 : ∀ v ∈ vs, v.oneCell' = true) (W : World) (cs : Array Value) (T : TypeId) (o : Obj) (h : cs.size = vs.length) :
    Sem.run P (storeCells ⟨W.heap.size, 0, none⟩ vs 0) ((W.alloc (.cells cs T)).alloc o) = .ok () ((W.alloc (.cells vs.toArray T)).alloc o) := by
  have hb : ((W.alloc (.cells cs T)).alloc o).heap[W.heap.size]? = some (.cells cs T (0, 0)) := by
    show ((W.heap.push _).push o)[W.heap.size]? = _
    rw [Array.getElem?_push, if_neg (by simp), Array.getElem?_push, if_pos rfl]
  rw [run_storeCells_at P W.heap.size 0 T vs 0 cs _ hb (by omega) h1, setRow_alloc2]
  congr 3
  simp [h]

def fromB (s : Sp) : Bd := ⟨s.fr, false⟩
def toB (s : Sp) : Bd := if s.en then ⟨zeroKey, true⟩ else ⟨s.to, false⟩
def madeS (a b : Bd) : Sp := ⟨a.key, b.key, b.en⟩
end Go.Proofs.Ytfeomnkgkppdlaa
