/- Blocks of 512 bytes and a device's struct in memory; sizes behind names. -/
import Derived.Test.YtedcpmkfanlicaaProg
import Derived.Test.YtedcpmkfanlicaaOwn
import Derived.Laws.CopyRow
import Derived.Laws.MakeOwn
import Derived.Laws.BytesArg
import Derived.Maps.OwnSet
set_option linter.unusedVariables false
set_option linter.unusedSimpArgs false
namespace Go.Proofs.Ytedcpmkfanlicaa
open Go Go.RowKit Go.Sort Go.Lib

def K512 : Nat := 512
def K513 : Nat := 513
theorem run_size512 (w : World) : Sem.run Try.prog (sizeOf 65) w = .ok K512 w := Try.sizeOf65 w
theorem run_size513 (w : World) : Sem.run Try.prog (sizeOf 67) w = .ok K513 w := Try.sizeOf67 w
theorem run_size512x (w : World) : Sem.run Try.prog (sizeOf 65) w = .ok K512 w := Try.sizeOf65 w
theorem run_size513x (w : World) : Sem.run Try.prog (sizeOf 67) w = .ok K513 w := Try.sizeOf67 w
theorem Try.mixed : Try.prog.follows .mixedOrders = true := by kernel_rfl

theorem store_last (P : Program) (vs : List Value) (h1 : ∀ v ∈ vs, v.oneCell' = true) (W : World) (cs : Array Value) (T : TypeId) (h : cs.size = vs.length) :
    Sem.run P (storeCells ⟨W.heap.size, 0, none⟩ vs 0) (W.alloc (.cells cs T)) = .ok () (W.alloc (.cells vs.toArray T)) := store_whole P vs h1 W cs T h
theorem setRow_alloc2 (W : World) (cs cs' : Array Value) (T : TypeId) (o : Obj) : ((W.alloc (.cells cs T)).alloc o).setRow W.heap.size cs' = (W.alloc (.cells cs' T)).alloc o := by
  show ({ W with heap := ((W.heap.push _).push o).modify W.heap.size _ } : World) = { W with heap := (W.heap.push _).push o }
  congr 1
  apply Array.ext_getElem?
  intro i
  rw [Array.getElem?_modify, Array.getElem?_push, Array.getElem?_push, Array.getElem?_push, Array.getElem?_push]
  simp only [Array.size_push]
  by_cases h : W.heap.size = i
  · subst h; simp
  · rw [if_neg h]
    by_cases h2 : i = W.heap.size + 1
    · simp [h2]
    · rw [if_neg h2, if_neg h2, if_neg (fun e => h e.symm), if_neg (fun e => h e.symm)]
theorem store_prev (P : Program) (vs : List Value) (h1 : ∀ v ∈ vs, v.oneCell' = true) (W : World) (cs : Array Value) (T : TypeId) (o : Obj) (h : cs.size = vs.length) :
    Sem.run P (storeCells ⟨W.heap.size, 0, none⟩ vs 0) ((W.alloc (.cells cs T)).alloc o) = .ok () ((W.alloc (.cells vs.toArray T)).alloc o) := by
  have hb : ((W.alloc (.cells cs T)).alloc o).heap[W.heap.size]? = some (.cells cs T (0, 0)) := by
    show ((W.heap.push _).push o)[W.heap.size]? = _
    rw [Array.getElem?_push, if_neg (by simp), Array.getElem?_push, if_pos rfl]
  rw [run_storeCells_at P W.heap.size 0 T vs 0 cs _ hb (by omega) h1, setRow_alloc2]
  congr 3
  simp [h]

/-- a block: its bytes -/
abbrev Blk := List Int
def bv (x : Int) : Value := .int .u8 x
def blkCells (b : Blk) : List Value := b.map bv
theorem blkCells_length (b : Blk) : (blkCells b).length = b.length := by simp [blkCells]
theorem blkCells_one (b : Blk) : ∀ v ∈ blkCells b, v.oneCell' = true := by
  intro v hv
  simp only [blkCells, List.mem_map] at hv
  obtain ⟨x, _, rfl⟩ := hv
  rfl
theorem blkCells_inj {a b : Blk} (h : blkCells a = blkCells b) : a = b :=
  (List.map_inj_right (fun x y h => by simpa [bv] using h)).1 h
/-- a block has 512 bytes -/
def Full (b : Blk) : Prop := b.length = 512 ∧ ∀ x ∈ b, 0 ≤ x ∧ x < 256
def zeroBlk : Blk := List.replicate 512 0
theorem full_zero : Full zeroBlk := ⟨List.length_replicate, fun x hx => by have := List.eq_of_mem_replicate hx; omega⟩
theorem zero65 (w : World) : Sem.run Try.prog (zeroValue 65) w = .ok (.agg (blkCells zeroBlk).toArray) w := by kernel_rfl
/-- a block that is not flushed, and since when -/
structure Nw where
  of : Blk
  since : Int
def nwCells (x : Nw) : List Value := blkCells x.of ++ [.int .i64 x.since]
theorem nwCells_length {x : Nw} (h : x.of.length = 512) : (nwCells x).length = 513 := by simp [nwCells, blkCells_length, h]
theorem nwCells_one (x : Nw) : ∀ v ∈ nwCells x, v.oneCell' = true := by
  intro v hv
  simp only [nwCells, List.mem_append, List.mem_singleton] at hv
  rcases hv with h | h
  · exact blkCells_one _ v h
  · subst h; rfl
def zeroNw : Nw := ⟨zeroBlk, 0⟩
theorem zero67 (w : World) : Sem.run Try.prog (zeroValue 67) w = .ok (.agg (nwCells zeroNw).toArray) w := by kernel_rfl
def blkV (b : Blk) : Value := .agg (blkCells b).toArray
def nwV (x : Nw) : Value := .agg (nwCells x).toArray
theorem blkV_inj {a b : Blk} (h : blkV a = blkV b) : a = b := by
  simp only [blkV, Value.agg.injEq] at h
  exact blkCells_inj (by simpa using h)

/-- the fields of a device but its maps -/
structure Dv where
  n : Int
  down : Bool
  clock : Int
  calls : Int
  armed : Int
  mask : Int
  torn : Int
  bytes : Int
def dvCells (d : Dv) (mf ml : Nat) : Array Value := #[.int .i64 d.n, .map (some mf), .map (some ml), .bool d.down, .int .i64 d.clock, .int .i64 d.calls, .int .i64 d.armed, .int .u64 d.mask, .int .i64 d.torn, .int .i64 d.bytes]
theorem cell_of_blk {w : World} {p j : Nat} {cs : Array Value} {T : TypeId} {u : Value} (h : w.heap[p]? = some (.cells cs T (0, 0))) (hj : cs[j]? = some u) : w.cell? ⟨p, j, none⟩ = some u ∧ w.frozen? ⟨p, j, none⟩ = false :=
  ⟨by rw [cell_of_row w p j cs T (0, 0) h, hj], frozen_of_row w p j cs T h⟩
end Go.Proofs.Ytedcpmkfanlicaa
