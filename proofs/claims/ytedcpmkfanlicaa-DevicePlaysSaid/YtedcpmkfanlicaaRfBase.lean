/- The reference's device in memory; its small functions by their contracts. -/
import Derived.Test.YtedcpmkfanlicaaDvStr
import Derived.Deep.RegionHeld3
import Derived.Deep.LoopGhost
import Derived.Deep.CutBlock
import Derived.Deep.DeepCutAuto
set_option linter.unusedVariables false
set_option linter.unusedSimpArgs false
namespace Go.Proofs.Ytedcpmkfanlicaa
open Go Go.RowKit Go.Sort Go.Lib Go.Maps Go.Deep
structure Rb where
  k : Int
  fl : ByteArray
  nw : ByteArray
structure Rf where
  n : Int
  L : List Rb
  lo : List Int
  down : Bool
  calls : Int
  armed : Int
  mask : Int
  torn : Int
  bytes : Int
structure Rl where
  p : Nat
  vL : Value
  vO : Value
def rbCells (b : Rb) : List Value := [.int .i64 b.k, .string b.fl, .string b.nw]
theorem rbCells_length (b : Rb) : (rbCells b).length = 3 := rfl
theorem rbCells_one (b : Rb) : ∀ v ∈ rbCells b, v.oneCell' = true := by
  intro v hv
  simp only [rbCells, List.mem_cons, List.not_mem_nil, or_false] at hv
  rcases hv with rfl | rfl | rfl <;> rfl
instance : Inhabited Rb := ⟨⟨0, default, default⟩⟩
def zV (z : Int) : Value := .int .i64 z
def rfCells (r : Rf) (vL vO : Value) : Array Value := #[.int .i64 r.n, vL, vO, .bool r.down, .int .i64 r.calls, .int .i64 r.armed, .int .u64 r.mask, .int .i64 r.torn, .int .i64 r.bytes]
def RFt (R : Rl) (i : Nat) : Prop := i = R.p ∨ R.vL.ownBlock = some i ∨ R.vO.ownBlock = some i
structure RfIs (w : World) (R : Rl) (r : Rf) : Prop where
  blk : w.heap[R.p]? = some (.cells (rfCells r R.vL R.vO) 76 (0, 0))
  ownL : w.ownsRow 0 80 3 R.vL r.L.length (flat rbCells r.L)
  ownO : w.ownsRow 0 3 1 R.vO r.lo.length (r.lo.map zV)
section
variable {w : World} {R : Rl} {r : Rf}
theorem blk_lt {w : World} {p : Nat} {o : Obj} (h : w.heap[p]? = some o) : p < w.heap.size := by
  by_cases hlt : p < w.heap.size
  · exact hlt
  · rw [Array.getElem?_eq_none (by omega)] at h; exact absurd h (by simp)
theorem RfIs.lt (H : RfIs w R r) : ∀ i, RFt R i → i < w.heap.size := by
  rintro i (rfl | h | h)
  · exact blk_lt H.blk
  · exact (H.ownL.lt i h).2
  · exact (H.ownO.lt i h).2
theorem RfIs.chg (H : RfIs w R r) {w' : World} {S : Nat → Prop} (X : Chg S w w') (h : ∀ i, RFt R i → ¬ S i) : RfIs w' R r :=
  ⟨by rw [X.block R.p (blk_lt H.blk) (h _ (.inl rfl))]; exact H.blk, X.owns H.ownL (fun i hi => h i (.inr (.inl hi))), X.owns H.ownO (fun i hi => h i (.inr (.inr hi)))⟩
theorem RfIs.ext (H : RfIs w R r) {w' : World} (X : Chg (fun _ => False) w w') : RfIs w' R r := H.chg X fun _ _ h => h
theorem RfIs.apL (H : RfIs w R r) : R.vL.ownBlock ≠ some R.p := by
  rcases owns_apart_block H.ownL H.blk (by decide) with e | e
  · rw [e]; simp
  · exact e
theorem RfIs.apO (H : RfIs w R r) : R.vO.ownBlock ≠ some R.p := by
  rcases owns_apart_block H.ownO H.blk (by decide) with e | e
  · rw [e]; simp
  · exact e
theorem RfIs.apLO (H : RfIs w R r) : ∀ i, R.vL.ownBlock = some i → R.vO.ownBlock ≠ some i := fun i hi h => by
  rcases owns_apart H.ownL H.ownO (by decide) with e | e
  · rw [e] at hi; cases hi
  · exact e (hi.trans h.symm)
theorem RfIs.cell (H : RfIs w R r) {j : Nat} {u : Value} (hj : (rfCells r R.vL R.vO)[j]? = some u) : w.cell? ⟨R.p, j, none⟩ = some u ∧ w.frozen? ⟨R.p, j, none⟩ = false := cell_of_blk H.blk hj
/-- other fields, the same slices -/
theorem RfIs.fields (H : RfIs w R r) {w' : World} {r' : Rf} (X : Chg (fun i => i = R.p) w w') (hb : w'.heap[R.p]? = some (.cells (rfCells r' R.vL R.vO) 76 (0, 0))) (hL : r'.L = r.L) (hO : r'.lo = r.lo) : RfIs w' R r' :=
  ⟨hb, by rw [hL]; exact X.owns H.ownL (fun i hi e => H.apL (e ▸ hi)), by rw [hO]; exact X.owns H.ownO (fun i hi e => H.apO (e ▸ hi))⟩
end
def newR (blocks : Int) : Rf := ⟨min (max blocks 1) 4294967296, [], [], false, 0, 0, 0, 0, 0⟩
theorem newR_any (blocks : Int) (w : World) : Calls Try.prog 25 #[.int .i64 blocks] w fun e w' => e = .returned (.pointer (some ⟨w.heap.size, 0, none⟩)) ∧ RfIs w' ⟨w.heap.size, .slice none 0 0, .slice none 0 0⟩ (newR blocks) ∧ Chg (fun _ => False) w w' := by
  have fin : ∀ b : Int, b = min (max blocks 1) 4294967296 → RfIs (w.alloc (.cells (rfCells { newR blocks with n := b } (.slice none 0 0) (.slice none 0 0)) 76)) ⟨w.heap.size, .slice none 0 0, .slice none 0 0⟩ (newR blocks) ∧ Chg (fun _ => False) w (w.alloc (.cells (rfCells { newR blocks with n := b } (.slice none 0 0) (.slice none 0 0)) 76)) := fun b hb => by
    subst hb
    exact ⟨⟨heap_alloc_new w _, World.ownsRow_nil _ _ _ _, World.ownsRow_nil _ _ _ _⟩, ((Ext.refl w).alloc _).chg _⟩
  have FIN := Lib.hid fin
  clear fin
  by_cases h1 : blocks < 1
  · go_enter Try.func25, Try.ntmps25
    go_wp2
    go_ret
    exact ⟨rfl, FIN.out 1 (by omega)⟩
  · by_cases h2 : blocks > 4294967296
    · go_enter Try.func25, Try.ntmps25
      go_wp2
      go_ret
      exact ⟨rfl, FIN.out 4294967296 (by omega)⟩
    · go_enter Try.func25, Try.ntmps25
      go_wp2
      go_ret
      exact ⟨rfl, FIN.out blocks (by omega)⟩
section
variable {w : World} {R : Rl} {r : Rf}
theorem startR_any (H : RfIs w R r) : Calls Try.prog 30 #[.pointer (some ⟨R.p, 0, none⟩)] w fun e w' => e = .returned (.tuple #[]) ∧ RfIs w' R { r with down := false } ∧ Chg (fun i => i = R.p) w w' := by
  have c := H.cell (j := 3) rfl
  have c1 := c.1
  have c2 := c.2
  clear c
  have HH := Lib.hid H
  clear H
  go_enter Try.func30, Try.ntmps30
  go_wp2
  go_end0
  refine ⟨rfl, ?_⟩
  have X := chg_setCell w ⟨R.p, 3, none⟩ (.bool false)
  exact ⟨HH.out.fields X (heap_setCell_same _ R.p 3 _ 76 _ HH.out.blk) rfl rfl, X⟩
theorem armR_any (H : RfIs w R r) (n mask torn bytes : Int) : Calls Try.prog 41 #[.pointer (some ⟨R.p, 0, none⟩), .int .i64 n, .int .u64 mask, .int .i64 torn, .int .i64 bytes] w fun e w' => e = .returned (.tuple #[]) ∧ RfIs w' R { r with armed := max n 0, mask := mask, torn := torn, bytes := bytes } ∧ Chg (fun i => i = R.p) w w' := by
  have c5 := (H.cell (j := 5) rfl).1
  have f5 := (H.cell (j := 5) rfl).2
  have c6 := (H.cell (j := 6) rfl).1
  have f6 := (H.cell (j := 6) rfl).2
  have c7 := (H.cell (j := 7) rfl).1
  have f7 := (H.cell (j := 7) rfl).2
  have c8 := (H.cell (j := 8) rfl).1
  have f8 := (H.cell (j := 8) rfl).2
  have HH := Lib.hid H
  clear H
  go_enter Try.func41, Try.ntmps41
  go_wp2
  go_end0
  refine ⟨rfl, ?_⟩
  have t : ∀ {W W' : World} {k : Nat} {v : Value}, Chg (fun i => i = R.p) W W' → Chg (fun i => i = R.p) W (W'.setCell ⟨R.p, k, none⟩ v) := fun X => X.trans (chg_setCell _ _ _) (fun _ _ h => h)
  have X := t (k := 8) (v := .int .i64 bytes) (t (k := 7) (v := .int .i64 torn) (t (k := 6) (v := .int .u64 mask) (t (k := 5) (v := .int .i64 (max n 0)) (Chg.refl _ w))))
  refine ⟨HH.out.fields X ?_ rfl rfl, X⟩
  exact heap_setCell_same _ R.p 8 _ 76 _ (heap_setCell_same _ R.p 7 _ 76 _ (heap_setCell_same _ R.p 6 _ 76 _ (heap_setCell_same _ R.p 5 _ 76 _ HH.out.blk)))
end
end Go.Proofs.Ytedcpmkfanlicaa
