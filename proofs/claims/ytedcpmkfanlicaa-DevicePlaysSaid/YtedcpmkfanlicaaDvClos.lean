/- The closures of Flush and Crash. -/
import Derived.Test.YtedcpmkfanlicaaDvSettle
import Derived.Deep.RegionHeld3
set_option linter.unusedVariables false
set_option linter.unusedSimpArgs false
namespace Go.Proofs.Ytedcpmkfanlicaa
open Go Go.RowKit Go.Sort Go.Lib Go.Maps
attribute [local go_sem ↓] run_size512 run_size513
attribute [local simp high] run_size512x run_size513x

/-- a store of a whole block over a whole block -/
theorem store_over {w : World} {o : Nat} {old new : Blk} (h : w.heap[o]? = some (.cells (blkCells old).toArray 65 (0, 0))) (ho : old.length = 512) (hn : new.length = 512) :
    Sem.run Try.prog (storeCells ⟨o, 0, none⟩ (blkCells new) 0) w = .ok () (w.setRow o (blkCells new).toArray) := by
  have h1 : (blkCells old).length = 512 := by rw [blkCells_length, ho]
  have h2 : (blkCells new).length = 512 := by rw [blkCells_length, hn]
  rw [run_storeCells_at Try.prog o 0 65 (blkCells new) 0 _ w h (by simp [h1, h2]) (blkCells_one _)]
  congr 2
  simp [h1, h2]
theorem flush1_enters : ∀ args w, (callFunc 38 args).run Try.prog w = .ok (.enter 38 args) w := enters_of Try.func38 (by kernel_rfl) rfl
theorem crash1_enters : ∀ args w, (callFunc 37 args).run Try.prog w = .ok (.enter 37 args) w := enters_of Try.func37 (by kernel_rfl) rfl
set_option maxHeartbeats 1000000 in
theorem flush1_any (w : World) (mf ml n : Nat) : Settles 38 #[] (fun _ _ x => x) w mf ml n := by
  intro W X i o old x hi fo fx ho B
  refine ⟨fx, ?_⟩
  have k1 : ¬ K512 = 0 := by decide
  have k3 : (512 = K512) = True := by decide
  have l0 : Sem.run Try.prog (loadCellsFrom ⟨W.heap.size, 0, none⟩ 0 K512 #[]) (W.alloc (.cells (blkCells x).toArray 65)) = .ok (blkCells x).toArray (W.alloc (.cells (blkCells x).toArray 65)) := (cellsAt_new W _ 65).load _ K512 (by rw [blkCells_length]; exact fx.1)
  have sx1 : (blkCells x).length = 512 := by rw [blkCells_length]; exact fx.1
  have sx2 : ¬ (blkCells x).length ≠ K512 := by rw [sx1]; decide
  have Bo : o < W.heap.size := by
    by_cases hlt : o < W.heap.size
    · exact hlt
    · rw [Array.getElem?_eq_none (by omega)] at B; exact absurd B (by simp)
  have B1 : (W.alloc (.cells (blkCells x).toArray 65)).heap[o]? = some (.cells (blkCells old).toArray 65 (0, 0)) := by rw [((Ext.refl W).alloc _).heap Bo]; exact B
  have s0 := store_over B1 fo.1 fx.1
  have HB1 := Lib.hid B1
  clear B B1 X
  simp only [Array.append_empty]
  go_enter Try.func38, Try.ntmps38
  go_wp2
  go_end0
  exact ⟨rfl, setRow_heap _ o _ _ 65 _ HB1.out, (((Ext.refl W).alloc _).chg (fun j => j = o)).trans (chg_setRow _ o _) (fun _ _ h => h)⟩

/-- what a crash leaves of the block that is settled as number i -/
def resC (mask : Int) (torn : Int) (bytes : Nat) (i : Nat) (old x : Blk) : Blk := if (i : Int) = torn then x.take bytes ++ old.drop bytes else if bits .and .u64 (mask / 2 ^ (i % 64)) 1 == 1 then x else old
theorem full_resC {mask torn : Int} {bytes i : Nat} {old x : Blk} (hb : bytes ≤ 512) (fo : Full old) (fx : Full x) : Full (resC mask torn bytes i old x) := by
  unfold resC
  split
  · refine ⟨by rw [List.length_append, List.length_take, List.length_drop, fx.1, fo.1]; omega, fun y hy => ?_⟩
    rcases List.mem_append.1 hy with h | h
    · exact fx.2 y (List.mem_of_mem_take h)
    · exact fo.2 y (List.mem_of_mem_drop h)
  · split
    · exact fx
    · exact fo
set_option maxHeartbeats 2000000 in
set_option maxRecDepth 100000 in
theorem crash1_any (w : World) (mf ml n : Nat) (mask torn : Int) (bytes : Nat) (gt gb gm : Nat) (hb : bytes ≤ 512) (hn : n ≤ 1000000) (hm : 0 ≤ mask ∧ mask < 18446744073709551616)
    (ct : w.cell? ⟨gt, 0, none⟩ = some (.int .i64 torn)) (cb : w.cell? ⟨gb, 0, none⟩ = some (.int .i64 (bytes : Int))) (cm : w.cell? ⟨gm, 0, none⟩ = some (.int .u64 mask))
    (a1 : gt ≠ mf ∧ gt ≠ ml) (a2 : gb ≠ mf ∧ gb ≠ ml) (a3 : gm ≠ mf ∧ gm ≠ ml) :
    Settles 37 #[.pointer (some ⟨gt, 0, none⟩), .pointer (some ⟨gb, 0, none⟩), .pointer (some ⟨gm, 0, none⟩)] (resC mask torn bytes) w mf ml n := by
  intro W X i o old x hi fo fx ho B
  refine ⟨full_resC hb fo fx, ?_⟩
  have mixed := Try.mixed
  have k1 : ¬ K512 = 0 := by decide
  have k3 : (512 = K512) = True := by decide
  have Bo : o < W.heap.size := by
    by_cases hlt : o < W.heap.size
    · exact hlt
    · rw [Array.getElem?_eq_none (by omega)] at B; exact absurd B (by simp)
  obtain ⟨w0, hw0⟩ : ∃ w0, w0 = W.alloc (.cells (blkCells x).toArray 65) := ⟨_, rfl⟩
  have E0 : Hid (Ext W w0) := by show Ext _ _; rw [hw0]; exact (Ext.refl W).alloc _
  have X0 : Hid (Chg (fun i => i = mf ∨ i = ml) w w0) := X.trans (E0.out.chg fun _ => False) (fun _ _ h => h.elim)
  have GB : Hid (gb < w.heap.size) := block_lt_of_cell cb
  have ct0 : w0.cell? ⟨gt, 0, none⟩ = some (.int .i64 torn) := X0.out.cell ct (fun h => h.elim a1.1 a1.2)
  have cb0 : w0.cell? ⟨gb, 0, none⟩ = some (.int .i64 (bytes : Int)) := X0.out.cell cb (fun h => h.elim a2.1 a2.2)
  have cm0 : w0.cell? ⟨gm, 0, none⟩ = some (.int .u64 mask) := X0.out.cell cm (fun h => h.elim a3.1 a3.2)
  have Cx : Hid (CellsAt w0 W.heap.size 0 (blkCells x)) := by show CellsAt _ _ _ _; rw [hw0]; exact cellsAt_new W _ 65
  have l0 : Sem.run Try.prog (loadCellsFrom ⟨W.heap.size, 0, none⟩ 0 K512 #[]) w0 = .ok (blkCells x).toArray w0 := Cx.out.load _ K512 (by rw [blkCells_length]; exact fx.1)
  have sx1 : (blkCells x).length = 512 := by rw [blkCells_length]; exact fx.1
  have sx2 : ¬ (blkCells x).length ≠ K512 := by rw [sx1]; decide
  have B1 : Hid (w0.heap[o]? = some (.cells (blkCells old).toArray 65 (0, 0))) := by show _ = _; rw [E0.out.heap Bo]; exact B
  have s0 := store_over B1.out fo.1 fx.1
  have hs : (W.alloc (.cells (blkCells x).toArray 65)) = w0 := hw0.symm
  clear hw0 B X ct cb cm
  simp only [Array.append_eq_append, List.append_toArray, List.cons_append, List.nil_append, List.append_eq]
  have X1 : Hid (Chg (fun j => j = o) W w0) := E0.out.chg _
  by_cases h1 : (i : Int) = torn
  · subst h1
    have R : Hid (resC mask (i : Int) bytes i old x = x.take bytes ++ old.drop bytes) := by show _ = _; unfold resC; rw [if_pos rfl]
    have z1 : (0 : Int) ≤ (bytes : Int) := by omega
    have z2 : (bytes : Int) ≤ 512 := by omega
    have go : ¬ gb = o := fun e => by have := block_lt_of_cell cb0; have := X0.out.size; have := GB.out; omega
    have r0 : ∀ W', Chg (fun j => j = o) w0 W' → W'.cell? ⟨gb, 0, none⟩ = some (.int .i64 (bytes : Int)) := fun W' X => X.cell cb0 go
    have KD : Hid (Chg (fun j => j = o) w0 w0.drew) := (Ext.refl w0).drew.chg _
    have hl : ((blkCells x).take bytes).length = bytes := by rw [List.length_take, sx1]; omega
    have cp : ∀ ty, (Builtin.copy_ #[31, 31] ty #[.slice (some ⟨o, 0, none⟩) bytes 512, .slice (some ⟨W.heap.size, 0, none⟩) 512 512]).run Try.prog w0.drew = .ok (goInt bytes) (w0.drew.setRow o (blkCells (x.take bytes ++ old.drop bytes)).toArray) := fun ty => by
      rw [run_copy_row Try.prog w0.drew 31 31 ty 5 o 0 bytes 512 ⟨W.heap.size, 0, none⟩ 512 512 (blkCells old).toArray 65 ((blkCells x).take bytes) Try.underlying31 (by kernel_rfl) B1.out (by rw [hl]; show bytes = min 512 bytes; omega)
        (fun j v hj => by
          rw [Addr.add_lit]
          exact (Ext.refl w0).drew.cell (Cx.out j v (by rw [List.getElem?_take] at hj; split at hj <;> simp_all)))
        (by rw [hl]; simp [blkCells_length, fo.1]; omega) (fun v hv => blkCells_one x v (List.mem_of_mem_take hv)), hl]
      congr 2
      simp [blkCells]
    have SC : Hid (Chg (fun j => j = o) w0 (w0.drew.setRow o (blkCells (x.take bytes ++ old.drop bytes)).toArray)) := KD.out.trans (chg_setRow _ o _) (fun _ _ h => h)
    have B2 : Hid (w0.drew.heap[o]? = some (.cells (blkCells old).toArray 65 (0, 0))) := B1.out
    clear s0 l0 cm0 hm hl
    go_enter Try.func37, Try.ntmps37
    go_upto_region 2 with fail
    refine wp_region_held_drew (S := fun W' => Chg (fun j => j = o) w0 W') (by kernel_rfl) KD.out (fun hHeld => ?_)
    refine wpAnyH_take (i := 0) (oi := _) (v := ?vc0) rfl (by kernel_rfl) (by kernel_rfl) (by kernel_rfl) (fun _ _ _ h => h) (Or.inl ⟨by rfl, ?yc0⟩) (by assumption) ?rc0
    case yc0 => (intro w hSw; go_simp; try with_reducible rfl)
    (try simp only [List.getElem_toArray, List.getElem_cons_succ, List.getElem_cons_zero, Act.put, List.setIfInBounds_toArray, List.set_cons_zero, List.set_cons_succ])
    refine wpAnyH_take (i := 1) (oi := _) (v := ?vc1) rfl (by kernel_rfl) (by kernel_rfl) (by kernel_rfl) (fun _ _ _ h => h) (Or.inl ⟨by rfl, ?yc1⟩) (by assumption) ?rc1
    case yc1 => (intro w hSw; go_simp; try with_reducible rfl)
    (try simp only [List.getElem_toArray, List.getElem_cons_succ, List.getElem_cons_zero, Act.put, List.setIfInBounds_toArray, List.set_cons_zero, List.set_cons_succ])
    refine wpAnyH_take (i := 2) (oi := _) (v := ?vc2) rfl (by kernel_rfl) (by kernel_rfl) (by kernel_rfl) (fun _ _ _ h => h) (Or.inl ⟨by rfl, ?yc2⟩) (by assumption) ?rc2
    case yc2 => (intro w hSw; go_simp; try with_reducible rfl)
    (try simp only [List.getElem_toArray, List.getElem_cons_succ, List.getElem_cons_zero, Act.put, List.setIfInBounds_toArray, List.set_cons_zero, List.set_cons_succ])
    refine wpAnyH_take (i := 3) (oi := _) (v := ?vc3) rfl (by kernel_rfl) (by kernel_rfl) (by kernel_rfl) (fun _ _ _ h => h) (Or.inl ⟨by rfl, ?yc3⟩) (by assumption) ?rc3
    case yc3 => (intro w hSw; go_simp; try with_reducible rfl)
    (try simp only [List.getElem_toArray, List.getElem_cons_succ, List.getElem_cons_zero, Act.put, List.setIfInBounds_toArray, List.set_cons_zero, List.set_cons_succ])
    refine wpAnyH_take (i := 4) (oi := _) (v := ?vc4) rfl (by kernel_rfl) (by kernel_rfl) (by kernel_rfl) (fun _ _ _ h => h) (Or.inl ⟨by rfl, ?yc4⟩) (by assumption) ?rc4
    case yc4 => (intro w hSw; go_simp; try with_reducible rfl)
    (try simp only [List.getElem_toArray, List.getElem_cons_succ, List.getElem_cons_zero, Act.put, List.setIfInBounds_toArray, List.set_cons_zero, List.set_cons_succ])
    refine wpAnyH_ready (rs := [5]) (by kernel_rfl) (by simp) ?_
    refine AllReadyH.cons (o := _) rfl (fun K hK => ?_) AllReadyH.nil
    (try simp only [List.getElem_toArray, List.getElem_cons_succ, List.getElem_cons_zero])
    go_simp
    refine hK.out _ _ ?_ (fun hHeld => ?_)
    · exact SC.out
    clear hK K
    (try simp only [List.getElem_toArray, List.getElem_cons_succ, List.getElem_cons_zero, Act.put, List.setIfInBounds_toArray, List.set_cons_zero, List.set_cons_succ])
    refine wpAnyH_done (by kernel_rfl) ?_ _
    go_wp2
    go_end0
    rw [R.out]
    exact ⟨rfl, setRow_heap _ o _ _ 65 _ B2.out, X1.out.trans SC.out (fun _ _ h => h)⟩
  · cases hbit : bits .and .u64 (mask / 2 ^ (i % 64)) 1 == 1 with
    | true =>
      have R : Hid (resC mask torn bytes i old x = x) := by show _ = _; unfold resC; rw [if_neg h1, if_pos hbit]
      have h2 : ((i : Int) == torn) = false := by simpa using h1
      go_enter Try.func37, Try.ntmps37
      go_wp2
      go_end0
      rw [R.out]
      exact ⟨rfl, setRow_heap _ o _ _ 65 _ B1.out, X1.out.trans (chg_setRow _ o _) (fun _ _ h => h)⟩
    | false =>
      have R : Hid (resC mask torn bytes i old x = old) := by show _ = _; unfold resC; rw [if_neg h1, hbit]; rfl
      have h2 : ((i : Int) == torn) = false := by simpa using h1
      go_enter Try.func37, Try.ntmps37
      go_wp2
      go_end0
      rw [R.out]
      exact ⟨rfl, B1.out, X1.out⟩
end Go.Proofs.Ytedcpmkfanlicaa
