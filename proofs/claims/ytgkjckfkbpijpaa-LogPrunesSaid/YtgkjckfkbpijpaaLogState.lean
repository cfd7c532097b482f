/- What a log is in memory: its struct, the row of its commits, each commit's rising row of keys. -/
import Derived.Test.YtgkjckfkbpijpaaLogClone
set_option linter.unusedVariables false
set_option linter.unusedSimpArgs false
namespace Go.Proofs.Ytgkjckfkbpijpaa
open Go Go.RowKit Go.Sort Go.Lib

structure Cm where
  num : Int
  sl : Value
  ks : List Key
instance : Inhabited Cm := ⟨⟨0, .slice none 0 0, []⟩⟩
def cmCells (c : Cm) : List Value := [.int .i64 c.num, c.sl]
theorem cmCells_length (c : Cm) : (cmCells c).length = 2 := rfl

structure LogAt (w : World) (B p : Nat) (v : Value) (cs : List Cm) (last floor : Int) : Prop where
  blk : w.heap[p]? = some (.cells #[v, .int .i64 last, .int .i64 floor] 46 (0, 0))
  low : B ≤ p
  own : w.ownsRow B 51 2 v cs.length (flat cmCells cs)
  keys : ∀ c ∈ cs, w.ownsRow B 24 24 c.sl c.ks.length (flat keyCells c.ks) ∧ Rising c.ks

theorem LogAt.lt {w : World} {B p : Nat} {v : Value} {cs : List Cm} {last floor : Int} (h : LogAt w B p v cs last floor) : p < w.heap.size := by
  by_cases hlt : p < w.heap.size
  · exact hlt
  · have := h.blk; rw [Array.getElem?_eq_none (by omega)] at this; exact absurd this (by simp)
theorem cell_of_blk {w : World} {p j : Nat} {cs : Array Value} {T : TypeId} {u : Value} (h : w.heap[p]? = some (.cells cs T (0, 0))) (hj : cs[j]? = some u) : w.cell? ⟨p, j, none⟩ = some u ∧ w.frozen? ⟨p, j, none⟩ = false :=
  ⟨by rw [cell_of_row w p j cs T (0, 0) h, hj], frozen_of_row w p j cs T h⟩
theorem LogAt.chg {w w' : World} {B p : Nat} {v : Value} {cs : List Cm} {last floor : Int} {S : Nat → Prop} (h : LogAt w B p v cs last floor) (X : Chg S w w') (hp : ¬ S p) (hv : ∀ i, v.ownBlock = some i → ¬ S i) (hk : ∀ c ∈ cs, ∀ i, c.sl.ownBlock = some i → ¬ S i) : LogAt w' B p v cs last floor :=
  ⟨by rw [X.block p h.lt hp]; exact h.blk, h.low, X.owns h.own hv, fun c hc => ⟨X.owns (h.keys c hc).1 (hk c hc), (h.keys c hc).2⟩⟩
theorem LogAt.kept {w w' : World} {B p : Nat} {v : Value} {cs : List Cm} {last floor : Int} {S : Nat → Prop} (h : LogAt w B p v cs last floor) (X : Chg S w w') (hS : ∀ i, i < w.heap.size → ¬ S i) : LogAt w' B p v cs last floor :=
  h.chg X (hS p h.lt) (fun i hi => hS i (h.own.lt i hi).2) (fun c hc i hi => hS i ((h.keys c hc).1.lt i hi).2)
theorem LogAt.ext {w w' : World} {B p : Nat} {v : Value} {cs : List Cm} {last floor : Int} (h : LogAt w B p v cs last floor) (X : Ext w w') : LogAt w' B p v cs last floor :=
  h.kept (X.chg fun _ => False) (fun _ _ h => h)
/-- a commit's keys lie apart from the log's own struct and row -/
theorem LogAt.keyBlock {w : World} {B p : Nat} {v : Value} {cs : List Cm} {last floor : Int} (h : LogAt w B p v cs last floor) {c : Cm} (hc : c ∈ cs) (i : Nat) (hi : c.sl.ownBlock = some i) : i ≠ p ∧ v.ownBlock ≠ some i := by
  constructor
  · rintro rfl
    rcases owns_apart_block (h.keys c hc).1 h.blk (by decide) with e | e
    · rw [e] at hi; exact absurd hi (by simp)
    · exact e hi
  · intro hv
    rcases owns_apart (h.keys c hc).1 h.own (by decide) with e | e
    · rw [e] at hi; exact absurd hi (by simp)
    · exact e (hi.trans hv.symm)
theorem LogAt.rowBlock {w : World} {B p : Nat} {v : Value} {cs : List Cm} {last floor : Int} (h : LogAt w B p v cs last floor) : v.ownBlock ≠ some p := by
  rcases owns_apart_block h.own h.blk (by decide) with e | e
  · rw [e]; simp
  · exact e

theorem owns_keysIn {w : World} {B : Nat} {v : Value} {ks : List Key} (h : w.ownsRow B 24 24 v ks.length (flat keyCells ks)) : KeysIn w v ks := by
  rcases owns_shape h with ⟨rfl, h0⟩ | ⟨g, cap, hv, _, _, _, _⟩
  · exact ⟨none, 0, by rw [h0], fun hp => by omega⟩
  · refine ⟨some ⟨g, 0, none⟩, cap, hv, fun _ => ⟨g, 0, rfl, ?_⟩⟩
    exact rowAt_of_flat (enc := keyCells) (k := 24) keyCells_length (owns_cells h hv)
end Go.Proofs.Ytgkjckfkbpijpaa
