/- Clone: the shelf's maps.Clone laid at both map types; then the device's own. -/
import Derived.Test.YtedcpmkfanlicaaDvWriteW
import Derived.Shelf.SlMaps.Clone
import Derived.Deep.RegionHeld3
set_option linter.unusedVariables false
set_option linter.unusedSimpArgs false
namespace Go.Proofs
open Go.Shelf
def Try.cloneF_ren : Go.Shelf.Ren := ⟨fun | 5 => 34 | 7 => 44 | n => n, fun | 4 => 4 | 20 => 20 | 23 => 57 | 25 => 3 | 3 => 65 | n => n, fun n => n⟩
def Try.cloneL_ren : Go.Shelf.Ren := ⟨fun | 5 => 35 | 7 => 44 | n => n, fun | 4 => 4 | 20 => 20 | 23 => 58 | 25 => 3 | 3 => 67 | n => n, fun n => n⟩
theorem Try.cloneF : Go.Proofs.SlLaysW.n5 Try.prog Try.cloneF_ren := {
  mixed := by kernel_rfl
  f5 := ⟨Try.f34.name, by decide, Try.func34.trans (congrArg some (by kernel_rfl))⟩
  f7 := Try.func44.trans (congrArg some (by kernel_rfl))
  t4 := Try.underlying4
  a4 := Try.isAgg4
  z4 := Try.sizeOf4
  v4 := Try.zeroValue4
  t20 := Try.underlying20
  a20 := Try.isAgg20
  z20 := Try.sizeOf20
  v20 := Try.zeroValue20
  t23 := Try.underlying57
  a23 := Try.isAgg57
  z23 := Try.sizeOf57
  v23 := Try.zeroValue57
}
theorem Try.cloneL : Go.Proofs.SlLaysW.n5 Try.prog Try.cloneL_ren := {
  mixed := by kernel_rfl
  f5 := ⟨Try.f35.name, by decide, Try.func35.trans (congrArg some (by kernel_rfl))⟩
  f7 := Try.func44.trans (congrArg some (by kernel_rfl))
  t4 := Try.underlying4
  a4 := Try.isAgg4
  z4 := Try.sizeOf4
  v4 := Try.zeroValue4
  t20 := Try.underlying20
  a20 := Try.isAgg20
  z20 := Try.sizeOf20
  v20 := Try.zeroValue20
  t23 := Try.underlying58
  a23 := Try.isAgg58
  z23 := Try.sizeOf58
  v23 := Try.zeroValue58
}
end Go.Proofs
namespace Go.Proofs.Ytedcpmkfanlicaa
open Go Go.RowKit Go.Sort Go.Lib Go.Maps
def K10 : Nat := 10
theorem run_size10 (w : World) : Sem.run Try.prog (sizeOf 62) w = .ok K10 w := Try.sizeOf62 w
theorem run_size10x (w : World) : Sem.run Try.prog (sizeOf 62) w = .ok K10 w := Try.sizeOf62 w
attribute [local go_sem ↓] run_size10
attribute [local simp high] run_size10x
theorem cloneF_of {w : World} {b n : Nat} {f : Int → Option Value} (h : MapIs w b n f) : Calls Try.prog 34 #[.map (some b)] w fun e w' => e = .returned (.map (some w.heap.size)) ∧ MapIs w' w.heap.size n f ∧ Ext w w' := by
  obtain ⟨D, ⟨es, clock, hb, F⟩, r⟩ := h
  refine (AnyW.maps_Clone Try.cloneF b es clock w hb).mono ?_
  rintro e w' ⟨rfl, rfl⟩
  exact ⟨rfl, ⟨D, ⟨es, clock, (MapKept.heap_alloc w _).1, F⟩, r⟩, (Ext.refl w).alloc _⟩
theorem cloneL_of {w : World} {b n : Nat} {f : Int → Option Value} (h : MapIs w b n f) : Calls Try.prog 35 #[.map (some b)] w fun e w' => e = .returned (.map (some w.heap.size)) ∧ MapIs w' w.heap.size n f ∧ Ext w w' := by
  obtain ⟨D, ⟨es, clock, hb, F⟩, r⟩ := h
  refine (AnyW.maps_Clone Try.cloneL b es clock w hb).mono ?_
  rintro e w' ⟨rfl, rfl⟩
  exact ⟨rfl, ⟨D, ⟨es, clock, (MapKept.heap_alloc w _).1, F⟩, r⟩, (Ext.refl w).alloc _⟩
section
variable {w : World} {p mf ml nf nl : Nat} {d : Dv} {G : Int → Option Blk} {lo : List (Int × Nw)}
theorem dvCells_length (d : Dv) (mf ml : Nat) : (dvCells d mf ml).toList.length = 10 := rfl
theorem dvCells_one (d : Dv) (mf ml : Nat) : ∀ v ∈ (dvCells d mf ml).toList, v.oneCell' = true := by
  intro v hv
  simp only [dvCells, List.mem_cons, List.not_mem_nil, or_false] at hv
  rcases hv with rfl | rfl | rfl | rfl | rfl | rfl | rfl | rfl | rfl | rfl <;> rfl
set_option maxHeartbeats 2000000 in
set_option maxRecDepth 100000 in
theorem clone_any (H : DevAt w p d mf ml nf nl G lo) : Calls Try.prog 15 #[.pointer (some ⟨p, 0, none⟩)] w fun e w' => ∃ q mf' ml', e = .returned (.pointer (some ⟨q, 0, none⟩)) ∧ DevAt w' q d mf' ml' nf nl G lo ∧ (w.heap.size ≤ q ∧ w.heap.size ≤ mf' ∧ w.heap.size ≤ ml') ∧ Chg (fun _ => False) w w' := by
  have mixed := Try.mixed
  have HH := Lib.hid H
  have k1 : ¬ K10 = 0 := by decide
  have k3 : (10 = K10) = True := by decide
  have l0 : Sem.run Try.prog (loadCellsFrom ⟨p, 0, none⟩ 0 K10 #[]) w = .ok (dvCells d mf ml).toList.toArray w := (cellsAt_blk (by simpa using H.blk)).load _ K10 rfl
  generalize hcs : (dvCells d mf ml).toList = cs at l0
  have HCS := Lib.hid hcs
  have sc1 : cs.length = 10 := by rw [← hcs]; rfl
  have sc2 : ¬ cs.length ≠ K10 := by rw [sc1]; decide
  have so := dvCells_one d mf ml
  rw [hcs] at so
  have s0 : ∀ c0, c0.size = 10 → Sem.run Try.prog (storeCells ⟨w.heap.size, 0, none⟩ cs 0) (w.alloc (.cells c0 62)) = .ok () (w.alloc (.cells cs.toArray 62)) := fun c0 hc => store_last Try.prog cs so w c0 62 (by rw [hc, sc1])
  clear H hcs so
  go_enter Try.func15, Try.ntmps15
  go_upto_region 2 with fail
  obtain ⟨wA, hA⟩ : ∃ wA, wA = w.alloc (.cells cs.toArray 62) := ⟨_, rfl⟩
  have EA : Hid (Ext w wA.drew) := by show Ext _ _; rw [hA]; exact ((Ext.refl w).alloc _).drew
  have QL : Hid (w.heap.size < wA.drew.heap.size) := by show _ < _; rw [hA]; simp
  have Q0 : Hid (wA.drew.heap[w.heap.size]? = some (.cells (dvCells d mf ml) 62 (0, 0))) := by
    show _ = _
    have h1 := heap_alloc_new w (.cells cs.toArray 62)
    rw [← HCS.out] at h1
    rw [hA, ← HCS.out]
    exact h1
  have HA := Lib.hid (HH.out.ext EA.out)
  have NP : Hid (p ≠ w.heap.size) := fun e => by have := HH.out.lt; omega
  have P1 : Hid (wA.drew.cell? ⟨p, 1, none⟩ = some (.map (some mf))) := (HA.out.cell (j := 1) rfl).1
  have P2 : Hid (wA.drew.cell? ⟨p, 2, none⟩ = some (.map (some ml))) := (HA.out.cell (j := 2) rfl).1
  have CF := Lib.hid (cloneF_of HA.out.fl)
  have CL : Hid (∀ W1, Ext wA.drew W1 → Calls Try.prog 35 #[.map (some ml)] W1 fun e w' => e = .returned (.map (some W1.heap.size)) ∧ MapIs w' W1.heap.size nl (fun k => (look lo k).map nwV) ∧ Ext W1 w') := fun W1 X => cloneL_of (HA.out.ls.ext X)
  rw [← hA]
  clear hA l0 s0 sc1 sc2
  refine wp_region_held_drew (S := fun W => W.cell? ⟨p, 1, none⟩ = some (.map (some mf)) ∧ W.cell? ⟨p, 2, none⟩ = some (.map (some ml))) (by kernel_rfl) ⟨P1.out, P2.out⟩ (fun hHeld => ?_)
  refine wpAnyH_take (i := 0) (oi := _) (v := ?vcl0) rfl (by kernel_rfl) (by kernel_rfl) (by kernel_rfl) (fun _ _ _ h => h) (Or.inl ⟨by rfl, ?ycl0⟩) (by assumption) ?rcl0
  case ycl0 => (intro w hSw; obtain ⟨hS1, hS2⟩ := hSw; go_simp; try with_reducible rfl)
  (try simp only [List.getElem_toArray, List.getElem_cons_succ, List.getElem_cons_zero, Act.put, List.setIfInBounds_toArray, List.set_cons_zero, List.set_cons_succ])
  refine wpAnyH_take (i := 1) (oi := _) (v := ?vcl1) rfl (by kernel_rfl) (by kernel_rfl) (by kernel_rfl) (fun _ _ _ h => h) (Or.inl ⟨by rfl, ?ycl1⟩) (by assumption) ?rcl1
  case ycl1 => (intro w hSw; obtain ⟨hS1, hS2⟩ := hSw; go_simp; try with_reducible rfl)
  (try simp only [List.getElem_toArray, List.getElem_cons_succ, List.getElem_cons_zero, Act.put, List.setIfInBounds_toArray, List.set_cons_zero, List.set_cons_succ])
  refine wpAnyH_take (i := 2) (oi := _) (v := ?vcl2) rfl (by kernel_rfl) (by kernel_rfl) (by kernel_rfl) (fun _ _ _ h => h) (Or.inl ⟨by rfl, ?ycl2⟩) (by assumption) ?rcl2
  case ycl2 => (intro w hSw; obtain ⟨hS1, hS2⟩ := hSw; go_simp; try with_reducible rfl)
  (try simp only [List.getElem_toArray, List.getElem_cons_succ, List.getElem_cons_zero, Act.put, List.setIfInBounds_toArray, List.set_cons_zero, List.set_cons_succ])
  refine wpAnyH_take (i := 3) (oi := _) (v := ?vcl3) rfl (by kernel_rfl) (by kernel_rfl) (by kernel_rfl) (fun _ _ _ h => h) (Or.inl ⟨by rfl, ?ycl3⟩) (by assumption) ?rcl3
  case ycl3 => (intro w hSw; obtain ⟨hS1, hS2⟩ := hSw; go_simp; try with_reducible rfl)
  (try simp only [List.getElem_toArray, List.getElem_cons_succ, List.getElem_cons_zero, Act.put, List.setIfInBounds_toArray, List.set_cons_zero, List.set_cons_succ])
  refine wpAnyH_take (i := 5) (oi := _) (v := ?vcl5) rfl (by kernel_rfl) (by kernel_rfl) (by kernel_rfl) (fun _ _ _ h => h) (Or.inl ⟨by rfl, ?ycl5⟩) (by assumption) ?rcl5
  case ycl5 => (intro w hSw; obtain ⟨hS1, hS2⟩ := hSw; go_simp; try with_reducible rfl)
  (try simp only [List.getElem_toArray, List.getElem_cons_succ, List.getElem_cons_zero, Act.put, List.setIfInBounds_toArray, List.set_cons_zero, List.set_cons_succ])
  refine wpAnyH_take (i := 6) (oi := _) (v := ?vcl6) rfl (by kernel_rfl) (by kernel_rfl) (by kernel_rfl) (fun _ _ _ h => h) (Or.inl ⟨by rfl, ?ycl6⟩) (by assumption) ?rcl6
  case ycl6 => (intro w hSw; obtain ⟨hS1, hS2⟩ := hSw; go_simp; try with_reducible rfl)
  (try simp only [List.getElem_toArray, List.getElem_cons_succ, List.getElem_cons_zero, Act.put, List.setIfInBounds_toArray, List.set_cons_zero, List.set_cons_succ])
  refine wpAnyH_take (i := 7) (oi := _) (v := ?vcl7) rfl (by kernel_rfl) (by kernel_rfl) (by kernel_rfl) (fun _ _ _ h => h) (Or.inl ⟨by rfl, ?ycl7⟩) (by assumption) ?rcl7
  case ycl7 => (intro w hSw; obtain ⟨hS1, hS2⟩ := hSw; go_simp; try with_reducible rfl)
  (try simp only [List.getElem_toArray, List.getElem_cons_succ, List.getElem_cons_zero, Act.put, List.setIfInBounds_toArray, List.set_cons_zero, List.set_cons_succ])
  refine wpAnyH_take (i := 8) (oi := _) (v := ?vcl8) rfl (by kernel_rfl) (by kernel_rfl) (by kernel_rfl) (fun _ _ _ h => h) (Or.inl ⟨by rfl, ?ycl8⟩) (by assumption) ?rcl8
  case ycl8 => (intro w hSw; obtain ⟨hS1, hS2⟩ := hSw; go_simp; try with_reducible rfl)
  (try simp only [List.getElem_toArray, List.getElem_cons_succ, List.getElem_cons_zero, Act.put, List.setIfInBounds_toArray, List.set_cons_zero, List.set_cons_succ])
  refine wpAnyH_ready (rs := [4]) (by kernel_rfl) (by simp) ?_
  refine AllReadyH.cons (o := _) rfl (fun K hK => ?_) AllReadyH.nil
  (try simp only [List.getElem_toArray, List.getElem_cons_succ, List.getElem_cons_zero])
  go_simp
  refine CF.out.mono ?_
  clear CF
  rintro e W1 ⟨rfl, M1, E1⟩
  refine hK.out _ _ ?_ (fun hHeld => ?_)
  · exact ⟨E1.cell P1.out, E1.cell P2.out⟩
  clear hK K
  (try simp only [List.getElem_toArray, List.getElem_cons_succ, List.getElem_cons_zero, Act.put, List.setIfInBounds_toArray, List.set_cons_zero, List.set_cons_succ])
  refine wpAnyH_ready (rs := [9]) (by kernel_rfl) (by simp) ?_
  refine AllReadyH.cons (o := _) rfl (fun K hK => ?_) AllReadyH.nil
  (try simp only [List.getElem_toArray, List.getElem_cons_succ, List.getElem_cons_zero])
  go_simp
  refine (CL.out _ E1).mono ?_
  clear CL
  rintro e W2 ⟨rfl, M2, E2⟩
  have E12 := Lib.hid (E1.trans E2)
  have BQ := Lib.hid ((E12.out.heap QL.out).trans Q0.out)
  have cq1 : W2.cell? ⟨w.heap.size, 1, none⟩ = some (.map (some mf)) := (cell_of_blk BQ.out (j := 1) rfl).1
  have fq1 : W2.frozen? ⟨w.heap.size, 1, none⟩ = false := (cell_of_blk (u := .map (some mf)) BQ.out (j := 1) rfl).2
  have cq2 : ∀ v, (W2.setCell ⟨w.heap.size, 1, none⟩ v).cell? ⟨w.heap.size, 2, none⟩ = some (.map (some ml)) := fun v => (cell_of_blk (heap_setCell_same W2 w.heap.size 1 _ 62 v BQ.out) (j := 2) rfl).1
  have fq2 : ∀ v, (W2.setCell ⟨w.heap.size, 1, none⟩ v).frozen? ⟨w.heap.size, 2, none⟩ = false := fun v => (cell_of_blk (u := .map (some ml)) (heap_setCell_same W2 w.heap.size 1 _ 62 v BQ.out) (j := 2) rfl).2
  refine hK.out _ _ ?_ (fun hHeld => ?_)
  · exact ⟨E12.out.cell P1.out, E12.out.cell P2.out⟩
  clear hK K
  (try simp only [List.getElem_toArray, List.getElem_cons_succ, List.getElem_cons_zero, Act.put, List.setIfInBounds_toArray, List.set_cons_zero, List.set_cons_succ])
  refine wpAnyH_take (i := 10) (oi := _) (v := ?vcl10) rfl (by kernel_rfl) (by kernel_rfl) (by kernel_rfl) (fun _ _ _ h => h) (Or.inl ⟨by rfl, ?ycl10⟩) (by assumption) ?rcl10
  case ycl10 => (intro w hSw; obtain ⟨hS1, hS2⟩ := hSw; go_simp; try with_reducible rfl)
  (try simp only [List.getElem_toArray, List.getElem_cons_succ, List.getElem_cons_zero, Act.put, List.setIfInBounds_toArray, List.set_cons_zero, List.set_cons_succ])
  refine wpAnyH_ready (rs := [11]) (by kernel_rfl) (by simp) ?_
  refine AllReadyH.cons (o := _) rfl (fun K hK => ?_) AllReadyH.nil
  (try simp only [List.getElem_toArray, List.getElem_cons_succ, List.getElem_cons_zero])
  go_simp
  refine hK.out _ _ ?_ (fun hHeld => ?_)
  · exact ⟨(chg_setCell W2 ⟨w.heap.size, 1, none⟩ _).cell (E12.out.cell P1.out) (fun e => NP.out e), (chg_setCell W2 ⟨w.heap.size, 1, none⟩ _).cell (E12.out.cell P2.out) (fun e => NP.out e)⟩
  clear hK K
  (try simp only [List.getElem_toArray, List.getElem_cons_succ, List.getElem_cons_zero, Act.put, List.setIfInBounds_toArray, List.set_cons_zero, List.set_cons_succ])
  refine wpAnyH_take (i := 12) (oi := _) (v := ?vcl12) rfl (by kernel_rfl) (by kernel_rfl) (by kernel_rfl) (fun _ _ _ h => h) (Or.inl ⟨by rfl, ?ycl12⟩) (by assumption) ?rcl12
  case ycl12 => (intro w hSw; obtain ⟨hS1, hS2⟩ := hSw; go_simp; try with_reducible rfl)
  (try simp only [List.getElem_toArray, List.getElem_cons_succ, List.getElem_cons_zero, Act.put, List.setIfInBounds_toArray, List.set_cons_zero, List.set_cons_succ])
  refine wpAnyH_ready (rs := [13]) (by kernel_rfl) (by simp) ?_
  refine AllReadyH.cons (o := _) rfl (fun K hK => ?_) AllReadyH.nil
  (try simp only [List.getElem_toArray, List.getElem_cons_succ, List.getElem_cons_zero])
  go_simp
  refine hK.out _ _ ?_ (fun hHeld => ?_)
  · exact ⟨((chg_setCell W2 ⟨w.heap.size, 1, none⟩ _).trans (chg_setCell _ ⟨w.heap.size, 2, none⟩ _) (fun _ _ h => h)).cell (E12.out.cell P1.out) (fun e => NP.out e), ((chg_setCell W2 ⟨w.heap.size, 1, none⟩ _).trans (chg_setCell _ ⟨w.heap.size, 2, none⟩ _) (fun _ _ h => h)).cell (E12.out.cell P2.out) (fun e => NP.out e)⟩
  clear hK K
  (try simp only [List.getElem_toArray, List.getElem_cons_succ, List.getElem_cons_zero, Act.put, List.setIfInBounds_toArray, List.set_cons_zero, List.set_cons_succ])
  refine wpAnyH_done (by kernel_rfl) ?_ _
  go_wp2
  go_ret
  have Z : Chg (fun i => i = w.heap.size) W2 ((W2.setCell ⟨w.heap.size, 1, none⟩ (.map (some wA.heap.size))).setCell ⟨w.heap.size, 2, none⟩ (.map (some W1.heap.size))) := (chg_setCell W2 ⟨w.heap.size, 1, none⟩ _).trans (chg_setCell _ ⟨w.heap.size, 2, none⟩ _) (fun _ _ h => h)
  have l1 : w.heap.size < wA.heap.size := QL.out
  have l2 : wA.heap.size < W1.heap.size := M1.lt
  refine ⟨w.heap.size, wA.heap.size, W1.heap.size, rfl, ⟨heap_setCell_same _ _ 2 _ 62 _ (heap_setCell_same _ _ 1 _ 62 _ BQ.out), (M1.ext E2).chg Z (fun e => by have e' : wA.heap.size = w.heap.size := e; omega), M2.chg Z (fun e => by omega), fun e => by omega, HH.out.fullF, HH.out.fullL, HH.out.keys, HH.out.rise, HH.out.young⟩, ⟨Nat.le_refl _, by omega, by omega⟩, ?_⟩
  exact (((EA.out.trans E12.out).chg fun _ => False).trans Z (fun i hi h => absurd hi (by omega)))
end
end Go.Proofs.Ytedcpmkfanlicaa
