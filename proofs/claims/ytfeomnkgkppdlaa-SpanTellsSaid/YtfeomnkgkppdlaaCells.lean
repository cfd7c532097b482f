/- Words on keys, spans and worlds that the walks of this seat share: what cells hold, and that a world is an older one with draws and new blocks. No program is named here. -/
import Derived.WalkKit
import Derived.WalkSpells
import Derived.WalkLawsBesides
import Derived.Shelf.SlSortCmp.WholeK
import Derived.Lib.Hide
import Derived.Lib.BytesEntry
set_option linter.unusedVariables false
set_option linter.unusedSimpArgs false
namespace Go.Proofs.Ytfeomnkgkppdlaa
open Go Go.RowKit Go.Sort Go.Lib

/-- the sizes of a key and of a span, behind names, so that the walk does not count them out -/
def K24 : Nat := 24
def K49 : Nat := 49
theorem K24_eq : K24 = 24 := rfl
theorem K49_eq : K49 = 49 := rfl
abbrev Key := Vector UInt8 24
def byteV (b : UInt8) : Value := .int .u8 (b.toNat : Int)
def keyCells (k : Key) : List Value := k.toList.map byteV
theorem keyCells_length (k : Key) : (keyCells k).length = 24 := by simp [keyCells]
theorem keyCells_len (k : Key) : (keyCells k).length = K24 := keyCells_length k
theorem keyCells_one (k : Key) : ∀ v ∈ keyCells k, v.oneCell' = true := by
  intro v hv
  simp only [keyCells, List.mem_map] at hv
  obtain ⟨b, _, rfl⟩ := hv
  rfl
def keyV (k : Key) : Value := .agg (keyCells k).toArray
def cmpK (a b : Key) : Int := Lib.compareBytes a.toList b.toList

structure Sp where
  fr : Key
  to : Key
  en : Bool
  deriving Inhabited
def spanCells (s : Sp) : List Value := keyCells s.fr ++ keyCells s.to ++ [.bool s.en]
theorem spanCells_length (s : Sp) : (spanCells s).length = 49 := by simp [spanCells, keyCells_length]
theorem spanCells_len (s : Sp) : (spanCells s).length = K49 := spanCells_length s
theorem spanCells_one (s : Sp) : ∀ v ∈ spanCells s, v.oneCell' = true := by
  intro v hv
  simp only [spanCells, List.mem_append, List.mem_singleton] at hv
  rcases hv with (h | h) | h
  · exact keyCells_one _ v h
  · exact keyCells_one _ v h
  · subst h; rfl
def spanV (s : Sp) : Value := .agg (spanCells s).toArray

/-- cells known from an address on -/
def CellsAt (w : World) (b off : Nat) (vs : List Value) : Prop := ∀ j v, vs[j]? = some v → w.cell? ⟨b, off + j, none⟩ = some v

theorem CellsAt.lt {w : World} {b off : Nat} {vs : List Value} (h : CellsAt w b off vs) (hv : vs ≠ []) : b < w.heap.size := by
  cases vs with
  | nil => exact absurd rfl hv
  | cons v r => exact block_lt_of_cell (h 0 v rfl)
theorem CellsAt.left {w : World} {b off : Nat} {u v : List Value} (h : CellsAt w b off (u ++ v)) : CellsAt w b off u := by
  intro j x hx
  refine h j x ?_
  have := (List.getElem?_eq_some_iff.1 hx).1
  rw [List.getElem?_append_left this]; exact hx
theorem CellsAt.right {w : World} {b off : Nat} {u v : List Value} (h : CellsAt w b off (u ++ v)) : CellsAt w b (off + u.length) v := by
  intro j x hx
  have := h (u.length + j) x (by rw [List.getElem?_append_right (by omega)]; simpa using hx)
  rwa [← Nat.add_assoc] at this
theorem CellsAt.load {w : World} {b off : Nat} {vs : List Value} (h : CellsAt w b off vs) (P : Program) (k : Nat) (hk : vs.length = k) :
    Sem.run P (loadCellsFrom ⟨b, off, none⟩ 0 k #[]) w = .ok vs.toArray w :=
  run_loadCellsFrom_list P w _ vs k hk (fun j v hv => by rw [Addr.add_lit]; exact h j v hv)
theorem CellsAt.of_block {w w' : World} {b off : Nat} {vs : List Value} (h : CellsAt w b off vs) (hb : w'.heap[b]? = w.heap[b]?) : CellsAt w' b off vs :=
  fun j v hv => (World.cell?_of_block hb).trans (h j v hv)
theorem CellsAt.grow {w : World} {b off : Nat} {vs : List Value} (h : CellsAt w b off vs) (n : Nat) (os : Array Obj) : CellsAt (grow (w.drewN n) os) b off vs :=
  fun j v hv => cell_grown (block_lt_of_cell (h j v hv)) (h j v hv) n os
theorem CellsAt.alloc {w : World} {b off : Nat} {vs : List Value} (h : CellsAt w b off vs) (o : Obj) : CellsAt (w.alloc o) b off vs := by
  intro j v hv
  have h1 := h j v hv
  have hb : b < w.heap.size := block_lt_of_cell h1
  exact (World.cell?_of_block (by show (w.heap.push o)[b]? = _; rw [Array.getElem?_push, if_neg (Nat.ne_of_lt hb)])).trans h1
theorem cellsAt_new (w : World) (vs : List Value) (T : TypeId) : CellsAt (w.alloc (.cells vs.toArray T)) w.heap.size 0 vs := by
  intro j v hv
  have h := cell_of_row (w.alloc (.cells vs.toArray T)) w.heap.size (0 + j) vs.toArray T (0,0) (heap_alloc_new w _)
  rw [h]
  simpa using hv

/-- W is w after some draws, with some new blocks -/
def Ext (w w' : World) : Prop := ∃ p : GrownBy, w' = grow (w.drewN p.n) p.os
theorem Ext.refl (w : World) : Ext w w := ⟨⟨0, #[]⟩, by rw [grow_empty]; rfl⟩
theorem Ext.trans {a b c : World} (h : Ext a b) (k : Ext b c) : Ext a c := by
  obtain ⟨⟨n, os⟩, rfl⟩ := h
  obtain ⟨⟨m, os'⟩, rfl⟩ := k
  exact ⟨⟨n + m, os ++ os'⟩, by show Sort.grow (Sort.grow ((World.drewN a n).drewN m) os) os' = _; rw [grow_grow, World.drewN_drewN]⟩
theorem Ext.of_grow (w : World) (n : Nat) (os : Array Obj) : Ext w (grow (w.drewN n) os) := ⟨⟨n, os⟩, rfl⟩
theorem Ext.grow {a b : World} (h : Ext a b) (n : Nat) (os : Array Obj) : Ext a (Sort.grow (b.drewN n) os) := h.trans (Ext.of_grow b n os)
theorem Ext.alloc {a b : World} (h : Ext a b) (o : Obj) : Ext a (b.alloc o) := h.trans ⟨⟨0, #[o]⟩, by rw [alloc_eq_grow]; rfl⟩
theorem Ext.drew {a b : World} (h : Ext a b) : Ext a b.drew := h.trans ⟨⟨1, #[]⟩, by rw [grow_empty]; rfl⟩
theorem Ext.drewN {a b : World} (h : Ext a b) (n : Nat) : Ext a (b.drewN n) := h.trans ⟨⟨n, #[]⟩, by rw [grow_empty]⟩
theorem Ext.heap {w w' : World} (h : Ext w w') {k : Nat} (hk : k < w.heap.size) : w'.heap[k]? = w.heap[k]? := by
  obtain ⟨⟨n, os⟩, rfl⟩ := h
  exact heap_grow_old (w.drewN n) os hk
theorem Ext.size {w w' : World} (h : Ext w w') : w.heap.size ≤ w'.heap.size := by
  obtain ⟨⟨n, os⟩, rfl⟩ := h
  rw [size_grow]
  exact Nat.le_add_right _ _
theorem Ext.cell {w w' : World} (h : Ext w w') {a : Addr} {v : Value} (hc : w.cell? a = some v) : w'.cell? a = some v :=
  (World.cell?_of_block (h.heap (block_lt_of_cell hc))).trans hc
theorem Ext.cells {w w' : World} (h : Ext w w') {b off : Nat} {vs : List Value} (hc : CellsAt w b off vs) : CellsAt w' b off vs :=
  fun j v hv => h.cell (hc j v hv)
theorem Ext.below {w w' : World} (h : Ext w w') : Below w.heap.size w w' := by
  obtain ⟨⟨n, os⟩, rfl⟩ := h
  exact ⟨rfl, rfl, rfl, by rw [size_grow]; exact Nat.le_add_right _ _, fun k hk => heap_grow_old (w.drewN n) os hk⟩
theorem Ext.exact {w w' : World} (h : Ext w w') : ∃ q os, w' = Sort.grow (w.drewN q) os := by
  obtain ⟨⟨n, os⟩, rfl⟩ := h
  exact ⟨n, os, rfl⟩

/-- A callee that leaves its world in the class, met in a region that only reads. -/
theorem Calls.grown_ext {P : Program} {f : FuncId} {args : Array Value} {w : World} {n : Nat} {os : Array Obj} {v : Value}
    (h : Calls P f args (grow (w.drewN n) os) fun e w' => e = .returned v ∧ Ext (grow (w.drewN n) os) w') :
    Calls P f args (grow (w.drewN n) os) fun e w'' => e = .returned v ∧ ∃ p : GrownBy, w'' = grow (w.drewN p.n) p.os :=
  h.mono fun _ _ ⟨he, hx⟩ => ⟨he, (Ext.of_grow w n os).trans hx⟩

theorem run_compareCells {P : Program} (w : World) (x y : List UInt8) (b1 o1 c1 b2 o2 c2 : Nat)
    (h1 : CellsAt w b1 o1 (x.map byteV)) (h2 : CellsAt w b2 o2 (y.map byteV)) :
    (Extern.BytealgCompare.compare #[.slice (some ⟨b1, o1, none⟩) x.length c1, .slice (some ⟨b2, o2, none⟩) y.length c2]).run P w = .ok (.int .i64 (Lib.compareBytes x y)) w := by
  have key : ∀ (x : List UInt8) (b o : Nat), CellsAt w b o (x.map byteV) →
      (Extern.Bytes.loadBytes ⟨b, o, none⟩ x.length .empty).run P w = .ok ⟨x.toArray⟩ w := by
    intro x b o h
    have hl := run_loadBytesX (P := P) w (x.map fun b => (b.toNat : Int)) ⟨b, o, none⟩ .empty (fun j v hj => by
      have e : (⟨b, o, none⟩ : Addr).add j = ⟨b, o + j, none⟩ := by unfold Addr.add; split <;> simp_all
      rw [e]
      refine h j _ ?_
      rw [List.getElem?_map] at hj ⊢
      cases hx : x[j]? with
      | none => simp [hx] at hj
      | some u => simp [hx] at hj ⊢; rw [← hj]; rfl)
    rw [List.length_map] at hl
    rw [hl]
    congr 1
    apply ByteArray.ext
    show (#[] : Array UInt8) ++ (bytesOf _).toArray = x.toArray
    simp [bytesOf, List.map_map, Function.comp_def]
  change Sem.run P (do pure (goInt (Extern.BytealgCompare.cmp (← Extern.Bytes.bytesOf (.slice (some ⟨b1, o1, none⟩) x.length c1)) (← Extern.Bytes.bytesOf (.slice (some ⟨b2, o2, none⟩) y.length c2))))) w = _
  simp only [Extern.Bytes.bytesOf, Sem.run_bind, key x b1 o1 h1, key y b2 o2 h2, Sem.run_pure, Result.andThen]
  rw [Lib.cmp_eq]
  rfl

end Go.Proofs.Ytfeomnkgkppdlaa
