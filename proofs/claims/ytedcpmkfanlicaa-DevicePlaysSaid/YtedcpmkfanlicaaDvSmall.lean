/- A device in memory; its small functions by their contracts. -/
import Derived.Test.YtedcpmkfanlicaaDvMap
import Derived.WalkKit
import Derived.WalkSpells
import Derived.WalkLawsBesides
set_option linter.unusedVariables false
set_option linter.unusedSimpArgs false
namespace Go.Proofs.Ytedcpmkfanlicaa
open Go Go.RowKit Go.Sort Go.Lib Go.Maps
attribute [local go_sem ↓] run_size512 run_size513
attribute [local simp high] run_size512x run_size513x

def look (lo : List (Int × Nw)) (k : Int) : Option Nw := (lo.find? (fun x => x.1 == k)).map (·.2)
/-- a device: its fields, what is flushed, what is loose in its order -/
structure DevAt (w : World) (p : Nat) (d : Dv) (mf ml nf nl : Nat) (G : Int → Option Blk) (lo : List (Int × Nw)) : Prop where
  blk : w.heap[p]? = some (.cells (dvCells d mf ml) 62 (0, 0))
  fl : MapIs w mf nf (fun k => (G k).map blkV)
  ls : MapIs w ml nl (fun k => (look lo k).map nwV)
  apart : mf ≠ ml
  fullF : ∀ k b, G k = some b → Full b
  fullL : ∀ x ∈ lo, Full x.2.of
  keys : (lo.map (·.1)).Nodup
  rise : lo.Pairwise (fun a b => a.2.since < b.2.since)
  young : ∀ x ∈ lo, 0 ≤ x.2.since ∧ x.2.since ≤ d.clock
section
variable {w : World} {p mf ml nf nl : Nat} {d : Dv} {G : Int → Option Blk} {lo : List (Int × Nw)}
theorem DevAt.lt (h : DevAt w p d mf ml nf nl G lo) : p < w.heap.size := by
  by_cases hlt : p < w.heap.size
  · exact hlt
  · have := h.blk; rw [Array.getElem?_eq_none (by omega)] at this; exact absurd this (by simp)
theorem DevAt.pf (h : DevAt w p d mf ml nf nl G lo) : p ≠ mf := by
  rintro rfl
  obtain ⟨D, ⟨es, c, h1, _⟩, _⟩ := h.fl
  rw [h.blk] at h1; exact absurd h1 (by simp)
theorem DevAt.pl (h : DevAt w p d mf ml nf nl G lo) : p ≠ ml := by
  rintro rfl
  obtain ⟨D, ⟨es, c, h1, _⟩, _⟩ := h.ls
  rw [h.blk] at h1; exact absurd h1 (by simp)
theorem DevAt.chg (h : DevAt w p d mf ml nf nl G lo) {w' : World} {S : Nat → Prop} (X : Chg S w w') (h1 : ¬ S p) (h2 : ¬ S mf) (h3 : ¬ S ml) : DevAt w' p d mf ml nf nl G lo :=
  ⟨by rw [X.block p h.lt h1]; exact h.blk, h.fl.chg X h2, h.ls.chg X h3, h.apart, h.fullF, h.fullL, h.keys, h.rise, h.young⟩
theorem DevAt.ext (h : DevAt w p d mf ml nf nl G lo) {w' : World} (X : Ext w w') : DevAt w' p d mf ml nf nl G lo := h.chg (X.chg fun _ => False) id id id
/-- the fields' cells -/
theorem DevAt.cell (h : DevAt w p d mf ml nf nl G lo) {j : Nat} {u : Value} (hj : (dvCells d mf ml)[j]? = some u) : w.cell? ⟨p, j, none⟩ = some u ∧ w.frozen? ⟨p, j, none⟩ = false := cell_of_blk h.blk hj
/-- other fields -/
theorem DevAt.fields (h : DevAt w p d mf ml nf nl G lo) {w' : World} {d' : Dv} (X : Chg (fun i => i = p) w w') (hb : w'.heap[p]? = some (.cells (dvCells d' mf ml) 62 (0, 0))) (hc : d.clock ≤ d'.clock) : DevAt w' p d' mf ml nf nl G lo :=
  ⟨hb, h.fl.chg X (fun e => h.pf e.symm), h.ls.chg X (fun e => h.pl e.symm), h.apart, h.fullF, h.fullL, h.keys, h.rise, fun x hx => ⟨(h.young x hx).1, Int.le_trans (h.young x hx).2 hc⟩⟩
end

set_option maxHeartbeats 400000 in
theorem new_any (blocks : Int) (w : World) : Calls Try.prog 11 #[.int .i64 blocks] w fun e w' => e = .returned (.pointer (some ⟨w.heap.size + 2, 0, none⟩)) ∧
    w' = ((w.alloc (.map #[] 0)).alloc (.map #[] 0)).alloc (.cells (dvCells ⟨min (max blocks 1) 4294967296, false, 0, 0, 0, 0, 0, 0⟩ w.heap.size (w.heap.size + 1)) 62) := by
  have hmm := @run_makeMap Try.prog
  go_enter Try.func11, Try.ntmps11
  go_wp2
  go_ret
  exact ⟨rfl, rfl⟩
theorem devAt_new (blocks : Int) (w : World) : DevAt (((w.alloc (.map #[] 0)).alloc (.map #[] 0)).alloc (.cells (dvCells ⟨min (max blocks 1) 4294967296, false, 0, 0, 0, 0, 0, 0⟩ w.heap.size (w.heap.size + 1)) 62)) (w.heap.size + 2)
    ⟨min (max blocks 1) 4294967296, false, 0, 0, 0, 0, 0, 0⟩ w.heap.size (w.heap.size + 1) 0 0 (fun _ => none) [] := by
  refine ⟨?_, ?_, ?_, by omega, fun k b h => by (cases h), fun x hx => by (cases hx), List.Pairwise.nil, List.Pairwise.nil, fun x hx => by (cases hx)⟩
  · have := heap_alloc_new ((w.alloc (.map #[] 0)).alloc (.map #[] 0)) (.cells (dvCells ⟨min (max blocks 1) 4294967296, false, 0, 0, 0, 0, 0, 0⟩ w.heap.size (w.heap.size + 1)) 62)
    simpa using this
  · exact (mapIs_made w).ext (((Ext.refl _).alloc _).alloc _)
  · have := (mapIs_made (w.alloc (.map #[] 0))).ext ((Ext.refl _).alloc (.cells (dvCells ⟨min (max blocks 1) 4294967296, false, 0, 0, 0, 0, 0, 0⟩ w.heap.size (w.heap.size + 1)) 62))
    simpa [look] using this

section
variable {w : World} {p mf ml nf nl : Nat} {d : Dv} {G : Int → Option Blk} {lo : List (Int × Nw)}
set_option maxHeartbeats 400000 in
theorem blocks_any (h : DevAt w p d mf ml nf nl G lo) : Calls Try.prog 22 #[.pointer (some ⟨p, 0, none⟩)] w fun e w' => e = .returned (.int .i64 d.n) ∧ w' = w := by
  have c : w.cell? ⟨p, 0, none⟩ = some (.int .i64 d.n) := (h.cell (j := 0) rfl).1
  clear h
  go_enter Try.func22, Try.ntmps22
  go_wp2
  go_ret
  exact ⟨rfl, rfl⟩
set_option maxHeartbeats 400000 in
theorem up_any (h : DevAt w p d mf ml nf nl G lo) : Calls Try.prog 20 #[.pointer (some ⟨p, 0, none⟩)] w fun e w' => e = .returned (.bool (!d.down)) ∧ w' = w := by
  have c : w.cell? ⟨p, 3, none⟩ = some (.bool d.down) := (h.cell (j := 3) rfl).1
  clear h
  go_enter Try.func20, Try.ntmps20
  go_wp2
  go_ret
  exact ⟨rfl, rfl⟩
set_option maxHeartbeats 400000 in
theorem calls_any (h : DevAt w p d mf ml nf nl G lo) : Calls Try.prog 16 #[.pointer (some ⟨p, 0, none⟩)] w fun e w' => e = .returned (.int .i64 d.calls) ∧ w' = w := by
  have c : w.cell? ⟨p, 5, none⟩ = some (.int .i64 d.calls) := (h.cell (j := 5) rfl).1
  clear h
  go_enter Try.func16, Try.ntmps16
  go_wp2
  go_ret
  exact ⟨rfl, rfl⟩
theorem look_keys (lo : List (Int × Nw)) (x : Int) : x ∈ lo.map (·.1) ↔ ((look lo x).map nwV).isSome = true := by
  unfold look
  simp only [Option.isSome_map, List.find?_isSome, List.mem_map, beq_iff_eq]
set_option maxHeartbeats 400000 in
theorem loose_any (h : DevAt w p d mf ml nf nl G lo) : Calls Try.prog 24 #[.pointer (some ⟨p, 0, none⟩)] w fun e w' => e = .returned (.int .i64 (lo.length : Int)) ∧ w' = w := by
  have c : w.cell? ⟨p, 2, none⟩ = some (.map (some ml)) := (h.cell (j := 2) rfl).1
  have l := fun ty => h.ls.len (t := 58) Try.underlying58 ty h.keys (look_keys lo)
  rw [List.length_map] at l
  clear h
  go_enter Try.func24, Try.ntmps24
  go_wp2
  go_ret
  exact ⟨rfl, rfl⟩
set_option maxHeartbeats 400000 in
theorem may_any (h : DevAt w p d mf ml nf nl G lo) (k : Int) : Calls Try.prog 33 #[.pointer (some ⟨p, 0, none⟩), .int .i64 k] w fun e w' => e = .returned (.int .i64 (if d.down then 11 else if k < 0 ∨ d.n ≤ k then 1 else 0)) ∧ w' = w := by
  have c : w.cell? ⟨p, 3, none⟩ = some (.bool d.down) := (h.cell (j := 3) rfl).1
  have c0 : w.cell? ⟨p, 0, none⟩ = some (.int .i64 d.n) := (h.cell (j := 0) rfl).1
  clear h
  cases hd : d.down with
  | true =>
    rw [hd] at c
    go_enter Try.func33, Try.ntmps33
    go_wp2
    go_ret
    exact ⟨rfl, rfl⟩
  | false =>
    rw [hd] at c
    clear hd
    go_enter Try.func33, Try.ntmps33
    by_cases h1 : k < 0
    · go_wp2
      go_ret
      exact ⟨by simp [h1], rfl⟩
    · by_cases h2 : d.n ≤ k
      · go_wp2
        go_ret
        exact ⟨by simp [h2], rfl⟩
      · go_wp2
        go_ret
        exact ⟨by simp [h1, h2], rfl⟩
end
end Go.Proofs.Ytedcpmkfanlicaa
