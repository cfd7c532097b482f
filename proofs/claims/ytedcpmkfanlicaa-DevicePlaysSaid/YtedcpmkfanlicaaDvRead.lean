/- Read by its contract. -/
import Derived.Test.YtedcpmkfanlicaaDvFill
set_option linter.unusedVariables false
set_option linter.unusedSimpArgs false
namespace Go.Proofs.Ytedcpmkfanlicaa
open Go Go.RowKit Go.Sort Go.Lib Go.Maps
attribute [local go_sem ↓] run_size512 run_size513
attribute [local simp high] run_size512x run_size513x

theorem size65 : Try.zeroCells65.size = 512 := by kernel_rfl
theorem size67 : Try.zeroCells67.size = 513 := by kernel_rfl
theorem chg_setRow (w : World) (g : Nat) (cs : Array Value) : Chg (fun i => i = g) w (w.setRow g cs) :=
  ⟨rfl, rfl, rfl, by simp [World.setRow], fun i hi hne => by
    show (w.heap.modify g _)[i]? = _
    rw [Array.getElem?_modify, if_neg (fun e => hne e.symm)]⟩
/-- a block's newest content -/
def newest (G : Int → Option Blk) (lo : List (Int × Nw)) (k : Int) : Blk := match look lo k with | some x => x.of | none => (G k).getD zeroBlk
theorem look_mem {lo : List (Int × Nw)} {k : Int} {x : Nw} (h : look lo k = some x) : (k, x) ∈ lo := by
  unfold look at h
  rw [Option.map_eq_some_iff] at h
  obtain ⟨⟨a, b⟩, h1, h2⟩ := h
  have h3 := List.find?_some h1
  have h4 := List.mem_of_find?_eq_some h1
  simp only [beq_iff_eq] at h3
  subst h2; subst h3
  exact h4

section
variable {w : World} {p mf ml nf nl : Nat} {d : Dv} {G : Int → Option Blk} {lo : List (Int × Nw)}
theorem DevAt.fullN (h : DevAt w p d mf ml nf nl G lo) (k : Int) : Full (newest G lo k) := by
  unfold newest
  cases hl : look lo k with
  | some x => exact h.fullL _ (look_mem hl)
  | none =>
    cases hg : G k with
    | none => exact full_zero
    | some b => exact h.fullF k b hg

set_option maxHeartbeats 1000000 in
theorem read_no (h : DevAt w p d mf ml nf nl G lo) (k e : Int) (he : (if d.down then 11 else if k < 0 ∨ d.n ≤ k then 1 else 0 : Int) = e) (hne : e ≠ 0) :
    Calls Try.prog 21 #[.pointer (some ⟨p, 0, none⟩), .int .i64 k] w fun x w' => x = .returned (.tuple #[.slice none 0 0, .int .i64 e]) ∧ w' = w := by
  have m := may_any h k
  rw [he] at m
  have M := Lib.hid m
  clear m he h
  go_enter Try.func21, Try.ntmps21
  go_wp2_with fail
  refine M.out.mono ?_
  rintro e w' ⟨rfl, rfl⟩
  go_wp2
  refine bodyPost_ret (v := .tuple #[.slice none 0 0, .int .i64 e]) ?_ rfl ⟨rfl, rfl⟩
  simp [results, Try.results21, go_sem]
set_option maxRecDepth 100000 in
set_option maxHeartbeats 1000000 in
theorem read_ok (h : DevAt w p d mf ml nf nl G lo) (k : Int) (hk : wfK k) (hd : d.down = false) (h0 : 0 ≤ k) (hn : k < d.n) :
    Calls Try.prog 21 #[.pointer (some ⟨p, 0, none⟩), .int .i64 k] w fun x w' => x = .returned (.tuple #[.slice (some ⟨w.heap.size, 0, none⟩) 512 512, .int .i64 0]) ∧ w'.heap[w.heap.size]? = some (.cells (blkCells (newest G lo k)).toArray 65 (0, 0)) ∧ Chg (fun _ => False) w w' := by
  have m := may_any h k
  rw [hd, if_neg (by simp), if_neg (by omega)] at m
  have M := Lib.hid m
  clear m
  have H := Lib.hid h
  have c1 : w.cell? ⟨p, 1, none⟩ = some (.map (some mf)) := (h.cell (j := 1) rfl).1
  have k1 : ¬ K512 = 0 := by decide
  have k2 : ¬ K513 = 0 := by decide
  have k3 : (512 = K512) = True := by decide
  have k4 : (513 = K513) = True := by decide
  have z1 := size65
  have z2 := size67
  obtain ⟨b, hb⟩ : ∃ b, b = (G k).getD zeroBlk := ⟨_, rfl⟩
  have fb : Full b := by
    rw [hb]
    cases hg : G k with
    | none => exact full_zero
    | some u => exact h.fullF k u hg
  have l1 : (Instr.lookup 57 (.map (some mf)) (.int .i64 k) false).run Try.prog w = .ok (.agg (blkCells b).toArray) w := by
    rw [h.fl.look hk Try.underlying57 (zero65 w), hb]
    cases G k <;> rfl
  obtain ⟨x, hx⟩ : ∃ x, x = (look lo k).getD zeroNw := ⟨_, rfl⟩
  have fx : Full x.of := by
    rw [hx]
    cases hl : look lo k with
    | none => exact full_zero
    | some u => exact h.fullL _ (look_mem hl)
  obtain ⟨w1, hw1⟩ : ∃ w1, w1 = w.alloc (.cells (blkCells b).toArray 65) := ⟨_, rfl⟩
  have H1 : Hid (DevAt w1 p d mf ml nf nl G lo) := by rw [hw1]; exact h.ext ((Ext.refl w).alloc _)
  have c2 : w1.cell? ⟨p, 2, none⟩ = some (.map (some ml)) := (H1.out.cell (j := 2) rfl).1
  have l2 : (Instr.lookup 58 (.map (some ml)) (.int .i64 k) true).run Try.prog w1 = .ok (.tuple #[.agg (nwCells x).toArray, .bool (look lo k).isSome]) w1 := by
    rw [H1.out.ls.look_ok hk Try.underlying58 (zero67 w1), hx]
    cases look lo k <;> rfl
  have sb1 : (blkCells b).length = 512 := by rw [blkCells_length]; exact fb.1
  have sb2 : ¬ (blkCells b).length ≠ K512 := by rw [sb1]; decide
  have sx1 : (nwCells x).length = 513 := nwCells_length fx.1
  have sx2 : ¬ (nwCells x).length ≠ K513 := by rw [sx1]; decide
  have s1 : ∀ cs, cs.size = 512 → Sem.run Try.prog (storeCells ⟨w.heap.size, 0, none⟩ (blkCells b) 0) (w.alloc (.cells cs 65)) = .ok () w1 := fun cs hc => by rw [hw1]; exact store_last Try.prog (blkCells b) (blkCells_one b) w cs 65 (by rw [hc, sb1])
  have HW1 := Lib.hid hw1
  clear hw1
  obtain ⟨w2, hw2⟩ : ∃ w2, w2 = w1.alloc (.cells (nwCells x).toArray 67) := ⟨_, rfl⟩
  have s2 : ∀ cs, cs.size = 513 → Sem.run Try.prog (storeCells ⟨w1.heap.size, 0, none⟩ (nwCells x) 0) (w1.alloc (.cells cs 67)) = .ok () w2 := fun cs hc => by rw [hw2]; exact store_last Try.prog (nwCells x) (nwCells_one x) w1 cs 67 (by rw [hc, sx1])
  have l3 : Sem.run Try.prog (loadCellsFrom ⟨w1.heap.size, 0, none⟩ 0 K512 #[]) w2 = .ok (blkCells x.of).toArray w2 := by
    have c : CellsAt w2 w1.heap.size 0 (nwCells x) := by rw [hw2]; exact cellsAt_new w1 _ 67
    exact (CellsAt.left c).load _ K512 (by rw [blkCells_length]; exact fx.1)
  have HW2 := Lib.hid hw2
  have B1 : Hid (w2.heap[w.heap.size]? = some (.cells (blkCells b).toArray 65 (0, 0))) := by
    show _ = _
    rw [hw2, HW1.out]
    have h1 := heap_alloc_new w (.cells (blkCells b).toArray 65)
    rw [((Ext.refl _).alloc _).heap (k := w.heap.size) (by simp)]
    exact h1
  clear hw2
  obtain ⟨w3, hw3⟩ : ∃ w3, w3 = w2.setRow w.heap.size (blkCells x.of).toArray := ⟨_, rfl⟩
  have st1 : (blkCells x.of).length = 512 := by rw [blkCells_length]; exact fx.1
  have st2 : ¬ (blkCells x.of).length ≠ K512 := by rw [st1]; decide
  have s3 : Sem.run Try.prog (storeCells ⟨w.heap.size, 0, none⟩ (blkCells x.of) 0) w2 = .ok () w3 := by
    rw [run_storeCells_at Try.prog w.heap.size 0 65 (blkCells x.of) 0 _ w2 B1.out (by simp [sb1, st1]) (blkCells_one _), hw3]
    congr 2
    simp [sb1, st1]
  have HW3 := Lib.hid hw3
  have R : Hid (newest G lo k = if (look lo k).isSome then x.of else b) := by
    show _ = _
    unfold newest
    rw [hx, hb]
    cases look lo k <;> rfl
  clear hw3 h hb hx
  generalize (look lo k).isSome = found at l2 R
  generalize newest G lo k = nb at R ⊢
  go_enter Try.func21, Try.ntmps21
  go_wp2_with fail
  refine M.out.mono ?_
  rintro e w' ⟨rfl, hw⟩
  have hw := hw.symm
  subst hw
  have X2 : Hid (Chg (fun _ => False) w w2) := by
    show Chg _ _ _
    rw [HW2.out, HW1.out]
    exact (((Ext.refl w).alloc _).alloc _).chg _
  cases found with
  | true =>
    go_wp2
    refine bodyPost_ret (v := .tuple #[.slice (some ⟨w.heap.size, 0, none⟩) 512 512, .int .i64 0]) ?_ rfl ⟨rfl, ?_, ?_⟩
    · simp [results, Try.results21, go_sem]
    · rw [HW3.out, R.out]
      exact setRow_heap w2 w.heap.size _ _ 65 _ B1.out
    · rw [HW3.out]
      exact X2.out.trans (chg_setRow w2 w.heap.size _) (fun i hi h => absurd hi (by omega))
  | false =>
    go_wp2
    refine bodyPost_ret (v := .tuple #[.slice (some ⟨w.heap.size, 0, none⟩) 512 512, .int .i64 0]) ?_ rfl ⟨rfl, ?_, X2.out⟩
    · simp [results, Try.results21, go_sem]
    · rw [R.out]; exact B1.out
end
end Go.Proofs.Ytedcpmkfanlicaa
