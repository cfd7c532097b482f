/- The first look that each statement of this seat takes. -/
import Derived.Test.YtedcpmkfanlicaaDvSteps
import Derived.Deep.RegionHeld3
set_option linter.unusedVariables false
set_option linter.unusedSimpArgs false
namespace Go.Proofs.Ytedcpmkfanlicaa
open Go Go.RowKit Go.Sort Go.Lib Go.Maps
def d4 (down : Bool) (clock calls : Int) : Dv := ⟨4, down, clock, calls, 0, 0, 0, 0⟩
theorem wf_small {k : Int} (h1 : 0 ≤ k) (h2 : k ≤ 1000000) : wfK k := (wfK_iff k).2 ⟨by omega, by omega⟩
def bA : Blk := filled 97
def bB : Blk := filled 98
def bC : Blk := filled 99
theorem fA : Full bA := full_filled ⟨by omega, by omega⟩
theorem fB : Full bB := full_filled ⟨by omega, by omega⟩
theorem fC : Full bC := full_filled ⟨by omega, by omega⟩
theorem full0 : Full (bB.take 3 ++ bA.drop 3) := ⟨by rw [List.length_append, List.length_take, List.length_drop, fA.1, fB.1]; omega, fun x hx => (List.mem_append.1 hx).elim (fun h => fB.2 x (List.mem_of_mem_take h)) (fun h => fA.2 x (List.mem_of_mem_drop h))⟩
theorem newest0 {G2 : Int → Option Blk} (h : G2 = settleG (resC 2 0 3) 0 (putG (fun _ => none) 0 bA) [(0, ⟨bB, 2⟩), (1, ⟨bC, 3⟩)]) : newest G2 [] 0 = bB.take 3 ++ bA.drop 3 := by
  rw [h]
  simp [newest, look, settleG, putG, resC]
theorem newest1 {G2 : Int → Option Blk} (h : G2 = settleG (resC 2 0 3) 0 (putG (fun _ => none) 0 bA) [(0, ⟨bB, 2⟩), (1, ⟨bC, 3⟩)]) : newest G2 [] 1 = bC := by
  have hb : (bits .and .u64 (2 / 2 ^ (1 % 64)) 1 == 1) = true := by decide
  rw [h]
  have hb' : bits .and .u64 1 1 = 1 := by simpa using hb
  simp [newest, look, settleG, putG, resC, hb']
theorem newest2 {G2 : Int → Option Blk} (h : G2 = settleG (resC 2 0 3) 0 (putG (fun _ => none) 0 bA) [(0, ⟨bB, 2⟩), (1, ⟨bC, 3⟩)]) : newest G2 [] 2 = zeroBlk := by
  rw [h]
  simp [newest, look, settleG, putG]
theorem conv_tail {w : World} {g : Nat} (h : CellsAt w g 0 (blkCells bA)) : (convert 31 9 (.slice (some ⟨g, 3, none⟩) 509 509)).run Try.prog w = .ok (.string (strOfNums (bA.drop 3))) w := by
  have hl : (bA.drop 3).length = 509 := by rw [List.length_drop, fA.1]
  refine run_convert_bytes_arg (P := Try.prog) w 31 5 Try.underlying31 Try.underlying5 g 3 509 509 (bA.drop 3) hl (fun i hi => ?_) 9 Try.underlying9
  have hi' : 3 + i < bA.length := by rw [fA.1]; omega
  have e : (blkCells bA)[3 + i]? = some (bv bA[3 + i]) := by simp [blkCells, List.getElem?_map, hi']
  have := h (3 + i) _ e
  rw [Nat.zero_add] at this
  rw [this]
  simp [bv, List.getD, List.getElem?_drop, hi']
theorem bbb : ((strB (bB.take 3 ++ bA.drop 3)).toList == ((⟨#[98, 98, 98]⟩ : ByteArray) ++ strOfNums (bA.drop 3)).toList) = true := by
  have e : bB.take 3 = [98, 98, 98] := by decide +kernel
  rw [beq_iff_eq, ByteArray.toList_eq, ByteArray.toList_eq, e]
  unfold strB
  rw [strOfNums_data, List.map_append]
  rw [ByteArray.data_append, Array.toList_append, strOfNums_data]
  rfl
set_option maxHeartbeats 4000000 in
set_option maxRecDepth 100000 in
theorem shown_any (w : World) : Calls Try.prog 10 #[] w fun e w' => e = .returned (.bool true) ∧ Chg (fun _ => False) w w' := by
  have mixed := Try.mixed
  have q0 := Lib.hid (new_any 4 w)
  go_enter Try.func10, Try.ntmps10
  go_wp2_with fail
  refine q0.out.mono ?_
  rintro e w1 ⟨rfl, hw1⟩
  have D1 : Hid (DevAt w1 (w.heap.size + 2) (d4 false 0 0) w.heap.size (w.heap.size + 1) 0 0 (fun _ => none) []) := by show DevAt _ _ _ _ _ _ _ _ _; rw [hw1]; exact devAt_new 4 w
  have Y1 : Hid (Chg (fun _ => False) w w1) := by show Chg _ _ _; rw [hw1]; exact ((((Ext.refl w).alloc _).alloc _).alloc _).chg _
  have z1 : Hid (w.heap.size + 3 ≤ w1.heap.size) := by show _ ≤ _; have := D1.out.lt; omega
  clear q0 hw1
  have Y := Y1
  have D := D1
  clear Y1 D1 z1
  have q := Lib.hid (filled_any 97 w1)
  go_wp2_with fail
  refine q.out.mono ?_
  rintro e w2 ⟨rfl, L⟩
  have LC : Hid (CellsAt w2 w1.heap.size 0 (blkCells bA)) := L.cells
  have X := L.2
  have gp : w1.heap.size ≠ w.heap.size + 2 := fun e => by have := D.out.lt; omega
  have GP := Lib.hid gp
  clear gp
  have D := Lib.hid (D.out.chg X id id id)
  have Y : Hid (Chg (fun _ => False) w w2) := Y.out.trans X (fun i hi h => by omega)
  clear q X L
  have q := Lib.hid (write_step (cb := 512) D.out rfl (by show (0 : Int) ≤ 0; decide) ⟨by decide, by decide⟩ ⟨by decide, by decide⟩ (k := 0) (by decide) (by decide) (wf_small (by decide) (by decide)) LC.out GP.out fA (by decide))
  go_wp2_with fail
  refine q.out.mono ?_
  rintro e w3 ⟨rfl, DD, X⟩
  have D : Hid (DevAt w3 (w.heap.size + 2) (d4 false 1 1) w.heap.size (w.heap.size + 1) 0 1 (fun _ => none) [(0, ⟨bA, 1⟩)]) := DD
  have Y : Hid (Chg (fun _ => False) w w3) := Y.out.trans X (fun i hi h => by omega)
  clear q X DD LC GP
  have q := Lib.hid (flush_step D.out rfl (by show (0 : Int) ≤ 0; decide) ⟨by decide, by decide⟩ (by decide) (by decide) (by decide))
  go_wp2_with fail
  refine q.out.mono ?_
  rintro e w4 ⟨rfl, DD, X⟩
  have D : Hid (DevAt w4 (w.heap.size + 2) (d4 false 1 2) w.heap.size (w.heap.size + 1) 1 1 (putG (fun _ => none) 0 bA) []) := DD
  have Y : Hid (Chg (fun _ => False) w w4) := Y.out.trans X (fun i hi h => by omega)
  clear q X DD
  have q := Lib.hid (filled_any 98 w4)
  go_wp2_with fail
  refine q.out.mono ?_
  rintro e w5 ⟨rfl, L⟩
  have LC : Hid (CellsAt w5 w4.heap.size 0 (blkCells bB)) := L.cells
  have X := L.2
  have gp : w4.heap.size ≠ w.heap.size + 2 := fun e => by have := D.out.lt; omega
  have GP := Lib.hid gp
  clear gp
  have D := Lib.hid (D.out.chg X id id id)
  have Y : Hid (Chg (fun _ => False) w w5) := Y.out.trans X (fun i hi h => by omega)
  clear q X L
  have q := Lib.hid (write_step (cb := 512) D.out rfl (by show (0 : Int) ≤ 0; decide) ⟨by decide, by decide⟩ ⟨by decide, by decide⟩ (k := 0) (by decide) (by decide) (wf_small (by decide) (by decide)) LC.out GP.out fB (by decide))
  go_wp2_with fail
  refine q.out.mono ?_
  rintro e w6 ⟨rfl, DD, X⟩
  have D : Hid (DevAt w6 (w.heap.size + 2) (d4 false 2 3) w.heap.size (w.heap.size + 1) 1 2 (putG (fun _ => none) 0 bA) [(0, ⟨bB, 2⟩)]) := DD
  have Y : Hid (Chg (fun _ => False) w w6) := Y.out.trans X (fun i hi h => by omega)
  clear q X DD LC GP
  have q := Lib.hid (filled_any 99 w6)
  go_wp2_with fail
  refine q.out.mono ?_
  rintro e w7 ⟨rfl, L⟩
  have LC : Hid (CellsAt w7 w6.heap.size 0 (blkCells bC)) := L.cells
  have X := L.2
  have gp : w6.heap.size ≠ w.heap.size + 2 := fun e => by have := D.out.lt; omega
  have GP := Lib.hid gp
  clear gp
  have D := Lib.hid (D.out.chg X id id id)
  have Y : Hid (Chg (fun _ => False) w w7) := Y.out.trans X (fun i hi h => by omega)
  clear q X L
  have q := Lib.hid (write_step (cb := 512) D.out rfl (by show (0 : Int) ≤ 0; decide) ⟨by decide, by decide⟩ ⟨by decide, by decide⟩ (k := 1) (by decide) (by decide) (wf_small (by decide) (by decide)) LC.out GP.out fC (by decide))
  go_wp2_with fail
  refine q.out.mono ?_
  rintro e w8 ⟨rfl, DD, X⟩
  have D : Hid (DevAt w8 (w.heap.size + 2) (d4 false 3 4) w.heap.size (w.heap.size + 1) 1 3 (putG (fun _ => none) 0 bA) [(0, ⟨bB, 2⟩), (1, ⟨bC, 3⟩)]) := DD
  have Y : Hid (Chg (fun _ => False) w w8) := Y.out.trans X (fun i hi h => by omega)
  clear q X DD LC GP
  have q := Lib.hid (loose_any D.out)
  go_wp2_with fail
  refine q.out.mono ?_
  rintro e w9 ⟨rfl, hw⟩
  have hw := hw.symm
  subst hw
  clear q
  have q := Lib.hid (crash_up D.out rfl (by decide) (by decide) (by decide) 2 0 3 ⟨by decide, by decide⟩)
  go_wp2_with fail
  refine q.out.mono ?_
  rintro e w10 ⟨rfl, DD, X⟩
  obtain ⟨G2, hG2⟩ : ∃ G2, G2 = settleG (resC 2 0 3) 0 (putG (fun _ => none) 0 bA) [(0, ⟨bB, 2⟩), (1, ⟨bC, 3⟩)] := ⟨_, rfl⟩
  have D : Hid (DevAt w10 (w.heap.size + 2) (d4 true 3 4) w.heap.size (w.heap.size + 1) 3 3 G2 []) := by show DevAt _ _ _ _ _ _ _ _ _; rw [hG2]; exact DD
  have HG := Lib.hid hG2
  have Y : Hid (Chg (fun _ => False) w w10) := Y.out.trans X (fun i hi h => by omega)
  clear q X DD hG2
  have q := Lib.hid (read_no D.out 0 11 rfl (by decide))
  go_wp2_with fail
  refine q.out.mono ?_
  rintro e w11 ⟨rfl, hw⟩
  have hw := hw.symm
  subst hw
  clear q
  have q := Lib.hid (start_any D.out)
  go_wp2_with fail
  refine q.out.mono ?_
  rintro e w12 ⟨rfl, DD, X⟩
  have D : Hid (DevAt w12 (w.heap.size + 2) (d4 false 3 4) w.heap.size (w.heap.size + 1) 3 3 G2 []) := DD
  have Y : Hid (Chg (fun _ => False) w w12) := Y.out.trans X (fun i hi h => by omega)
  clear q X DD
  have q := Lib.hid (read_ok D.out 0 (wf_small (by decide) (by decide)) rfl (by decide) (by decide))
  go_wp2_with fail
  refine q.out.mono ?_
  rintro e w13 ⟨rfl, B, X⟩
  have R0 : Hid (CellsAt w13 w12.heap.size 0 (blkCells (newest G2 [] 0))) := cellsAt_blk B
  have D := Lib.hid (D.out.chg X id id id)
  have Y : Hid (Chg (fun _ => False) w w13) := Y.out.trans X (fun i hi h => by omega)
  clear q X B
  have q := Lib.hid (read_ok D.out 1 (wf_small (by decide) (by decide)) rfl (by decide) (by decide))
  go_wp2_with fail
  refine q.out.mono ?_
  rintro e w14 ⟨rfl, B, X⟩
  have R0 := Lib.hid (X.cells R0.out id)
  have R1 : Hid (CellsAt w14 w13.heap.size 0 (blkCells (newest G2 [] 1))) := cellsAt_blk B
  have D := Lib.hid (D.out.chg X id id id)
  have Y : Hid (Chg (fun _ => False) w w14) := Y.out.trans X (fun i hi h => by omega)
  clear q X B
  have q := Lib.hid (read_ok D.out 2 (wf_small (by decide) (by decide)) rfl (by decide) (by decide))
  go_wp2_with fail
  refine q.out.mono ?_
  rintro e w15 ⟨rfl, B, X⟩
  have R0 := Lib.hid (X.cells R0.out id)
  have R1 := Lib.hid (X.cells R1.out id)
  have R2 : Hid (CellsAt w15 w14.heap.size 0 (blkCells (newest G2 [] 2))) := cellsAt_blk B
  have D := Lib.hid (D.out.chg X id id id)
  have Y : Hid (Chg (fun _ => False) w w15) := Y.out.trans X (fun i hi h => by omega)
  clear q X B
  have q := Lib.hid (read_no D.out 4 1 rfl (by decide))
  go_wp2_with fail
  refine q.out.mono ?_
  rintro e w16 ⟨rfl, hw⟩
  have hw := hw.symm
  subst hw
  clear q
  have E0 := newest0 HG.out
  have E1 := newest1 HG.out
  have E2 := newest2 HG.out
  rw [E0] at R0
  rw [E1] at R1
  rw [E2] at R2
  clear E0 E1 E2 HG
  have cv0 : ∀ W, Chg (fun _ => False) w15 W → (convert 31 9 (.slice (some ⟨w12.heap.size, 0, none⟩) 512 512)).run Try.prog W = .ok (.string (strB (bB.take 3 ++ bA.drop 3))) W := fun W X => conv_blk _ full0.1 W _ 0 512 (X.cells R0.out id)
  have cv1 : ∀ W, Chg (fun _ => False) w15 W → (convert 31 9 (.slice (some ⟨w13.heap.size, 0, none⟩) 512 512)).run Try.prog W = .ok (.string (strB bC)) W := fun W X => conv_blk _ fC.1 W _ 0 512 (X.cells R1.out id)
  have cv2 : ∀ W, Chg (fun _ => False) w15 W → (convert 31 9 (.slice (some ⟨w14.heap.size, 0, none⟩) 512 512)).run Try.prog W = .ok (.string (strB zeroBlk)) W := fun W X => conv_blk _ full_zero.1 W _ 0 512 (X.cells R2.out id)
  have F97 : Hid (∀ W, Chg (fun _ => False) w15 W → Calls Try.prog 31 #[.int .u8 97] W fun e w' => e = .returned (.slice (some ⟨W.heap.size, 0, none⟩) 512 512) ∧ ((convert 31 9 (.slice (some ⟨W.heap.size, 0, none⟩) 512 512)).run Try.prog w' = .ok (.string (strB bA)) w' ∧ (convert 31 9 (.slice (some ⟨W.heap.size, 3, none⟩) 509 509)).run Try.prog w' = .ok (.string (strOfNums (bA.drop 3))) w') ∧ Chg (fun _ => False) w15 w') := fun W X =>
    (filled_any 97 W).mono fun e w' ⟨he, L⟩ => ⟨he, ⟨conv_blk _ fA.1 w' _ 0 512 L.cells, conv_tail L.cells⟩, X.trans L.2 (fun _ _ h => h)⟩
  have F99 : Hid (∀ W, Chg (fun _ => False) w15 W → Calls Try.prog 31 #[.int .u8 99] W fun e w' => e = .returned (.slice (some ⟨W.heap.size, 0, none⟩) 512 512) ∧ ((convert 31 9 (.slice (some ⟨W.heap.size, 0, none⟩) 512 512)).run Try.prog w' = .ok (.string (strB bC)) w' ∧ True) ∧ Chg (fun _ => False) w15 w') := fun W X =>
    (filled_any 99 W).mono fun e w' ⟨he, L⟩ => ⟨he, ⟨conv_blk _ fC.1 w' _ 0 512 L.cells, trivial⟩, X.trans L.2 (fun _ _ h => h)⟩
  have FN : Hid (∀ W, Chg (fun _ => False) w15 W → Calls Try.prog 23 #[] W fun e w' => e = .returned (.string (strB zeroBlk)) ∧ Chg (fun _ => False) w15 w') := fun W X =>
    (noughts_any W).mono fun e w' ⟨he, L⟩ => ⟨he, X.trans L (fun _ _ h => h)⟩
  have FC : Hid (∀ W, Chg (fun _ => False) w15 W → Calls Try.prog 16 #[.pointer (some ⟨w.heap.size + 2, 0, none⟩)] W fun e w' => e = .returned (.int .i64 4) ∧ Chg (fun _ => False) w15 w') := fun W X =>
    (calls_any (D.out.chg X id id id)).mono fun e w' ⟨he, L⟩ => ⟨he, by rw [L]; exact X⟩
  have FB : Hid (∀ W, Chg (fun _ => False) w15 W → Calls Try.prog 22 #[.pointer (some ⟨w.heap.size + 2, 0, none⟩)] W fun e w' => e = .returned (.int .i64 4) ∧ Chg (fun _ => False) w15 w') := fun W X =>
    (blocks_any (D.out.chg X id id id)).mono fun e w' ⟨he, L⟩ => ⟨he, by rw [L]; exact X⟩
  have KD : Hid (Chg (fun _ => False) w15 w15.drew) := (Ext.refl w15).drew.chg _
  have es := bbb
  have hs4 : (strOfNums (bA.drop 3)).size = 509 := by rw [strOfNums_size, List.length_drop, fA.1]
  clear R0 R1 R2 D
  generalize strB (bB.take 3 ++ bA.drop 3) = sv0 at *
  generalize strB bC = sv1 at *
  generalize strB zeroBlk = sv2 at *
  generalize strB bA = sv3 at *
  generalize strOfNums (bA.drop 3) = sv4 at *
  go_upto_region 11 with fail
  refine wp_region_held_drew (S := fun W => Chg (fun _ => False) w15 W) (by kernel_rfl) KD.out (fun hHeld => ?_)
  refine wpAnyH_take (i := 0) (oi := _) (v := ?vsh0) rfl (by kernel_rfl) (by kernel_rfl) (by kernel_rfl) (fun _ _ _ h => h) (Or.inl ⟨by rfl, ?ysh0⟩) (by assumption) ?rsh0
  case ysh0 => (intro w hSw; go_simp; try with_reducible rfl)
  (try simp only [List.getElem_toArray, List.getElem_cons_succ, List.getElem_cons_zero, Act.put, List.setIfInBounds_toArray, List.set_cons_zero, List.set_cons_succ])
  refine wpAnyH_take (i := 1) (oi := _) (v := ?vsh1) rfl (by kernel_rfl) (by kernel_rfl) (by kernel_rfl) (fun _ _ _ h => h) (Or.inl ⟨by rfl, ?ysh1⟩) (by assumption) ?rsh1
  case ysh1 => (intro w hSw; go_simp; try with_reducible rfl)
  (try simp only [List.getElem_toArray, List.getElem_cons_succ, List.getElem_cons_zero, Act.put, List.setIfInBounds_toArray, List.set_cons_zero, List.set_cons_succ])
  refine wpAnyH_take (i := 2) (oi := _) (v := ?vsh2) rfl (by kernel_rfl) (by kernel_rfl) (by kernel_rfl) (fun _ _ _ h => h) (Or.inl ⟨by rfl, ?ysh2⟩) (by assumption) ?rsh2
  case ysh2 => (intro w hSw; go_simp; try with_reducible rfl)
  (try simp only [List.getElem_toArray, List.getElem_cons_succ, List.getElem_cons_zero, Act.put, List.setIfInBounds_toArray, List.set_cons_zero, List.set_cons_succ])
  refine wpAnyH_take (i := 3) (oi := _) (v := ?vsh3) rfl (by kernel_rfl) (by kernel_rfl) (by kernel_rfl) (fun _ _ _ h => h) (Or.inl ⟨by rfl, ?ysh3⟩) (by assumption) ?rsh3
  case ysh3 => (intro w hSw; go_simp; try with_reducible rfl)
  (try simp only [List.getElem_toArray, List.getElem_cons_succ, List.getElem_cons_zero, Act.put, List.setIfInBounds_toArray, List.set_cons_zero, List.set_cons_succ])
  refine wpAnyH_take (i := 4) (oi := _) (v := ?vsh4) rfl (by kernel_rfl) (by kernel_rfl) (by kernel_rfl) (fun _ _ _ h => h) (Or.inl ⟨by rfl, ?ysh4⟩) (by assumption) ?rsh4
  case ysh4 => (intro w hSw; go_simp; try with_reducible rfl)
  (try simp only [List.getElem_toArray, List.getElem_cons_succ, List.getElem_cons_zero, Act.put, List.setIfInBounds_toArray, List.set_cons_zero, List.set_cons_succ])
  refine wpAnyH_take (i := 5) (oi := _) (v := ?vsh5) rfl (by kernel_rfl) (by kernel_rfl) (by kernel_rfl) (fun _ _ _ h => h) (Or.inl ⟨by rfl, ?ysh5⟩) (by assumption) ?rsh5
  case ysh5 => (intro w hSw; go_simp; try with_reducible rfl)
  (try simp only [List.getElem_toArray, List.getElem_cons_succ, List.getElem_cons_zero, Act.put, List.setIfInBounds_toArray, List.set_cons_zero, List.set_cons_succ])
  refine wpAnyH_take (i := 6) (oi := _) (v := ?vsh6) rfl (by kernel_rfl) (by kernel_rfl) (by kernel_rfl) (fun _ _ _ h => h) (Or.inl ⟨by rfl, ?ysh6⟩) (by assumption) ?rsh6
  case ysh6 => (intro w hSw; go_simp; try with_reducible rfl)
  (try simp only [List.getElem_toArray, List.getElem_cons_succ, List.getElem_cons_zero, Act.put, List.setIfInBounds_toArray, List.set_cons_zero, List.set_cons_succ])
  refine wpAnyH_take (i := 7) (oi := _) (v := ?vsh7) rfl (by kernel_rfl) (by kernel_rfl) (by kernel_rfl) (fun _ _ _ h => h) (Or.inl ⟨by rfl, ?ysh7⟩) (by assumption) ?rsh7
  case ysh7 => (intro w hSw; go_simp; try with_reducible rfl)
  (try simp only [List.getElem_toArray, List.getElem_cons_succ, List.getElem_cons_zero, Act.put, List.setIfInBounds_toArray, List.set_cons_zero, List.set_cons_succ])
  refine wpAnyH_take (i := 8) (oi := _) (v := ?vsh8) rfl (by kernel_rfl) (by kernel_rfl) (by kernel_rfl) (fun _ _ _ h => h) (Or.inl ⟨by rfl, ?ysh8⟩) (by assumption) ?rsh8
  case ysh8 => (intro w hSw; go_simp; try with_reducible rfl)
  (try simp only [List.getElem_toArray, List.getElem_cons_succ, List.getElem_cons_zero, Act.put, List.setIfInBounds_toArray, List.set_cons_zero, List.set_cons_succ])
  refine wpAnyH_ready (rs := [9]) (by kernel_rfl) (by simp) ?_
  refine AllReadyH.cons (o := _) rfl (fun K hK => ?_) AllReadyH.nil
  (try simp only [List.getElem_toArray, List.getElem_cons_succ, List.getElem_cons_zero])
  go_simp
  refine (F97.out _ (by assumption)).mono ?_
  rintro e w16 ⟨rfl, LA, X⟩
  have cvA : (convert 31 9 (.slice (some ⟨w15.heap.size, 3, none⟩) 509 509)).run Try.prog w16 = .ok (.string sv4) w16 := LA.2
  have LA := LA.1
  refine hK.out _ _ ?_ (fun hHeld => ?_)
  · exact X
  clear hK K
  (try simp only [List.getElem_toArray, List.getElem_cons_succ, List.getElem_cons_zero, Act.put, List.setIfInBounds_toArray, List.set_cons_zero, List.set_cons_succ])
  refine wpAnyH_take (i := 10) (oi := _) (v := ?vsh10) rfl (by kernel_rfl) (by kernel_rfl) (by kernel_rfl) (fun _ _ _ h => h) (Or.inl ⟨by rfl, ?ysh10⟩) (by assumption) ?rsh10
  case ysh10 => (intro w hSw; go_simp; try with_reducible rfl)
  (try simp only [List.getElem_toArray, List.getElem_cons_succ, List.getElem_cons_zero, Act.put, List.setIfInBounds_toArray, List.set_cons_zero, List.set_cons_succ])
  refine wpAnyH_ready (rs := [11]) (by kernel_rfl) (by simp) ?_
  refine AllReadyH.cons (o := _) rfl (fun K hK => ?_) AllReadyH.nil
  (try simp only [List.getElem_toArray, List.getElem_cons_succ, List.getElem_cons_zero])
  go_simp
  refine hK.out _ _ ?_ (fun hHeld => ?_)
  · exact X
  clear hK K
  (try simp only [List.getElem_toArray, List.getElem_cons_succ, List.getElem_cons_zero, Act.put, List.setIfInBounds_toArray, List.set_cons_zero, List.set_cons_succ])
  refine wpAnyH_take (i := 12) (oi := _) (v := ?vsh12) rfl (by kernel_rfl) (by kernel_rfl) (by kernel_rfl) (fun _ _ _ h => h) (Or.inl ⟨by rfl, ?ysh12⟩) (by assumption) ?rsh12
  case ysh12 => (intro w hSw; go_simp; try with_reducible rfl)
  (try simp only [List.getElem_toArray, List.getElem_cons_succ, List.getElem_cons_zero, Act.put, List.setIfInBounds_toArray, List.set_cons_zero, List.set_cons_succ])
  refine wpAnyH_take (i := 13) (oi := _) (v := ?vsh13) rfl (by kernel_rfl) (by kernel_rfl) (by kernel_rfl) (fun _ _ _ h => h) (Or.inl ⟨by rfl, ?ysh13⟩) (by assumption) ?rsh13
  case ysh13 => (intro w hSw; go_simp; try with_reducible rfl)
  (try simp only [List.getElem_toArray, List.getElem_cons_succ, List.getElem_cons_zero, Act.put, List.setIfInBounds_toArray, List.set_cons_zero, List.set_cons_succ])
  refine wpAnyH_take (i := 14) (oi := _) (v := ?vsh14) rfl (by kernel_rfl) (by kernel_rfl) (by kernel_rfl) (fun _ _ _ h => h) (Or.inl ⟨by rfl, ?ysh14⟩) (by assumption) ?rsh14
  case ysh14 => (intro w hSw; go_simp; try with_reducible rfl)
  (try simp only [List.getElem_toArray, List.getElem_cons_succ, List.getElem_cons_zero, Act.put, List.setIfInBounds_toArray, List.set_cons_zero, List.set_cons_succ])
  refine wpAnyH_take (i := 15) (oi := _) (v := ?vsh15) rfl (by kernel_rfl) (by kernel_rfl) (by kernel_rfl) (fun _ _ _ h => h) (Or.inl ⟨by rfl, ?ysh15⟩) (by assumption) ?rsh15
  case ysh15 => (intro w hSw; go_simp; try with_reducible rfl)
  (try simp only [List.getElem_toArray, List.getElem_cons_succ, List.getElem_cons_zero, Act.put, List.setIfInBounds_toArray, List.set_cons_zero, List.set_cons_succ])
  refine wpAnyH_take (i := 16) (oi := _) (v := ?vsh16) rfl (by kernel_rfl) (by kernel_rfl) (by kernel_rfl) (fun _ _ _ h => h) (Or.inl ⟨by rfl, ?ysh16⟩) (by assumption) ?rsh16
  case ysh16 => (intro w hSw; go_simp; try with_reducible rfl)
  (try simp only [List.getElem_toArray, List.getElem_cons_succ, List.getElem_cons_zero, Act.put, List.setIfInBounds_toArray, List.set_cons_zero, List.set_cons_succ])
  refine wpAnyH_take (i := 17) (oi := _) (v := ?vsh17) rfl (by kernel_rfl) (by kernel_rfl) (by kernel_rfl) (fun _ _ _ h => h) (Or.inl ⟨by rfl, ?ysh17⟩) (by assumption) ?rsh17
  case ysh17 => (intro w hSw; go_simp; try with_reducible rfl)
  (try simp only [List.getElem_toArray, List.getElem_cons_succ, List.getElem_cons_zero, Act.put, List.setIfInBounds_toArray, List.set_cons_zero, List.set_cons_succ])
  refine wpAnyH_take (i := 18) (oi := _) (v := ?vsh18) rfl (by kernel_rfl) (by kernel_rfl) (by kernel_rfl) (fun _ _ _ h => h) (Or.inl ⟨by rfl, ?ysh18⟩) (by assumption) ?rsh18
  case ysh18 => (intro w hSw; go_simp; try with_reducible rfl)
  (try simp only [List.getElem_toArray, List.getElem_cons_succ, List.getElem_cons_zero, Act.put, List.setIfInBounds_toArray, List.set_cons_zero, List.set_cons_succ])
  refine wpAnyH_take (i := 19) (oi := _) (v := ?vsh19) rfl (by kernel_rfl) (by kernel_rfl) (by kernel_rfl) (fun _ _ _ h => h) (Or.inl ⟨by rfl, ?ysh19⟩) (by assumption) ?rsh19
  case ysh19 => (intro w hSw; go_simp; try with_reducible rfl)
  (try simp only [List.getElem_toArray, List.getElem_cons_succ, List.getElem_cons_zero, Act.put, List.setIfInBounds_toArray, List.set_cons_zero, List.set_cons_succ])
  refine wpAnyH_take (i := 20) (oi := _) (v := ?vsh20) rfl (by kernel_rfl) (by kernel_rfl) (by kernel_rfl) (fun _ _ _ h => h) (Or.inl ⟨by rfl, ?ysh20⟩) (by assumption) ?rsh20
  case ysh20 => (intro w hSw; go_simp; try with_reducible rfl)
  (try simp only [List.getElem_toArray, List.getElem_cons_succ, List.getElem_cons_zero, Act.put, List.setIfInBounds_toArray, List.set_cons_zero, List.set_cons_succ])
  refine wpAnyH_take (i := 21) (oi := _) (v := ?vsh21) rfl (by kernel_rfl) (by kernel_rfl) (by kernel_rfl) (fun _ _ _ h => h) (Or.inl ⟨by rfl, ?ysh21⟩) (by assumption) ?rsh21
  case ysh21 => (intro w hSw; go_simp; try with_reducible rfl)
  (try simp only [List.getElem_toArray, List.getElem_cons_succ, List.getElem_cons_zero, Act.put, List.setIfInBounds_toArray, List.set_cons_zero, List.set_cons_succ])
  refine wpAnyH_ready (rs := [22]) (by kernel_rfl) (by simp) ?_
  refine AllReadyH.cons (o := _) rfl (fun K hK => ?_) AllReadyH.nil
  (try simp only [List.getElem_toArray, List.getElem_cons_succ, List.getElem_cons_zero])
  go_simp
  refine (F99.out _ (by assumption)).mono ?_
  clear cvA LA X
  rintro e w17 ⟨rfl, LA, X⟩
  have cvA := LA.1
  refine hK.out _ _ ?_ (fun hHeld => ?_)
  · exact X
  clear hK K
  (try simp only [List.getElem_toArray, List.getElem_cons_succ, List.getElem_cons_zero, Act.put, List.setIfInBounds_toArray, List.set_cons_zero, List.set_cons_succ])
  refine wpAnyH_ready (rs := [23]) (by kernel_rfl) (by simp) ?_
  refine AllReadyH.cons (o := _) rfl (fun K hK => ?_) AllReadyH.nil
  (try simp only [List.getElem_toArray, List.getElem_cons_succ, List.getElem_cons_zero])
  go_simp
  refine hK.out _ _ ?_ (fun hHeld => ?_)
  · exact X
  clear hK K
  (try simp only [List.getElem_toArray, List.getElem_cons_succ, List.getElem_cons_zero, Act.put, List.setIfInBounds_toArray, List.set_cons_zero, List.set_cons_succ])
  refine wpAnyH_take (i := 24) (oi := _) (v := ?vsh24) rfl (by kernel_rfl) (by kernel_rfl) (by kernel_rfl) (fun _ _ _ h => h) (Or.inl ⟨by rfl, ?ysh24⟩) (by assumption) ?rsh24
  case ysh24 => (intro w hSw; go_simp; try with_reducible rfl)
  (try simp only [List.getElem_toArray, List.getElem_cons_succ, List.getElem_cons_zero, Act.put, List.setIfInBounds_toArray, List.set_cons_zero, List.set_cons_succ])
  refine wpAnyH_take (i := 25) (oi := _) (v := ?vsh25) rfl (by kernel_rfl) (by kernel_rfl) (by kernel_rfl) (fun _ _ _ h => h) (Or.inl ⟨by rfl, ?ysh25⟩) (by assumption) ?rsh25
  case ysh25 => (intro w hSw; go_simp; try with_reducible rfl)
  (try simp only [List.getElem_toArray, List.getElem_cons_succ, List.getElem_cons_zero, Act.put, List.setIfInBounds_toArray, List.set_cons_zero, List.set_cons_succ])
  refine wpAnyH_take (i := 26) (oi := _) (v := ?vsh26) rfl (by kernel_rfl) (by kernel_rfl) (by kernel_rfl) (fun _ _ _ h => h) (Or.inl ⟨by rfl, ?ysh26⟩) (by assumption) ?rsh26
  case ysh26 => (intro w hSw; go_simp; try with_reducible rfl)
  (try simp only [List.getElem_toArray, List.getElem_cons_succ, List.getElem_cons_zero, Act.put, List.setIfInBounds_toArray, List.set_cons_zero, List.set_cons_succ])
  refine wpAnyH_take (i := 27) (oi := _) (v := ?vsh27) rfl (by kernel_rfl) (by kernel_rfl) (by kernel_rfl) (fun _ _ _ h => h) (Or.inl ⟨by rfl, ?ysh27⟩) (by assumption) ?rsh27
  case ysh27 => (intro w hSw; go_simp; try with_reducible rfl)
  (try simp only [List.getElem_toArray, List.getElem_cons_succ, List.getElem_cons_zero, Act.put, List.setIfInBounds_toArray, List.set_cons_zero, List.set_cons_succ])
  refine wpAnyH_take (i := 28) (oi := _) (v := ?vsh28) rfl (by kernel_rfl) (by kernel_rfl) (by kernel_rfl) (fun _ _ _ h => h) (Or.inl ⟨by rfl, ?ysh28⟩) (by assumption) ?rsh28
  case ysh28 => (intro w hSw; go_simp; try with_reducible rfl)
  (try simp only [List.getElem_toArray, List.getElem_cons_succ, List.getElem_cons_zero, Act.put, List.setIfInBounds_toArray, List.set_cons_zero, List.set_cons_succ])
  refine wpAnyH_take (i := 29) (oi := _) (v := ?vsh29) rfl (by kernel_rfl) (by kernel_rfl) (by kernel_rfl) (fun _ _ _ h => h) (Or.inl ⟨by rfl, ?ysh29⟩) (by assumption) ?rsh29
  case ysh29 => (intro w hSw; go_simp; try with_reducible rfl)
  (try simp only [List.getElem_toArray, List.getElem_cons_succ, List.getElem_cons_zero, Act.put, List.setIfInBounds_toArray, List.set_cons_zero, List.set_cons_succ])
  refine wpAnyH_take (i := 30) (oi := _) (v := ?vsh30) rfl (by kernel_rfl) (by kernel_rfl) (by kernel_rfl) (fun _ _ _ h => h) (Or.inl ⟨by rfl, ?ysh30⟩) (by assumption) ?rsh30
  case ysh30 => (intro w hSw; go_simp; try with_reducible rfl)
  (try simp only [List.getElem_toArray, List.getElem_cons_succ, List.getElem_cons_zero, Act.put, List.setIfInBounds_toArray, List.set_cons_zero, List.set_cons_succ])
  refine wpAnyH_take (i := 31) (oi := _) (v := ?vsh31) rfl (by kernel_rfl) (by kernel_rfl) (by kernel_rfl) (fun _ _ _ h => h) (Or.inl ⟨by rfl, ?ysh31⟩) (by assumption) ?rsh31
  case ysh31 => (intro w hSw; go_simp; try with_reducible rfl)
  (try simp only [List.getElem_toArray, List.getElem_cons_succ, List.getElem_cons_zero, Act.put, List.setIfInBounds_toArray, List.set_cons_zero, List.set_cons_succ])
  refine wpAnyH_take (i := 32) (oi := _) (v := ?vsh32) rfl (by kernel_rfl) (by kernel_rfl) (by kernel_rfl) (fun _ _ _ h => h) (Or.inl ⟨by rfl, ?ysh32⟩) (by assumption) ?rsh32
  case ysh32 => (intro w hSw; go_simp; try with_reducible rfl)
  (try simp only [List.getElem_toArray, List.getElem_cons_succ, List.getElem_cons_zero, Act.put, List.setIfInBounds_toArray, List.set_cons_zero, List.set_cons_succ])
  refine wpAnyH_ready (rs := [33]) (by kernel_rfl) (by simp) ?_
  refine AllReadyH.cons (o := _) rfl (fun K hK => ?_) AllReadyH.nil
  (try simp only [List.getElem_toArray, List.getElem_cons_succ, List.getElem_cons_zero])
  go_simp
  refine (FN.out _ (by assumption)).mono ?_
  clear cvA LA X
  rintro e w18 ⟨rfl, X⟩
  refine hK.out _ _ ?_ (fun hHeld => ?_)
  · exact X
  clear hK K
  (try simp only [List.getElem_toArray, List.getElem_cons_succ, List.getElem_cons_zero, Act.put, List.setIfInBounds_toArray, List.set_cons_zero, List.set_cons_succ])
  refine wpAnyH_take (i := 34) (oi := _) (v := ?vsh34) rfl (by kernel_rfl) (by kernel_rfl) (by kernel_rfl) (fun _ _ _ h => h) (Or.inl ⟨by rfl, ?ysh34⟩) (by assumption) ?rsh34
  case ysh34 => (intro w hSw; go_simp; try with_reducible rfl)
  (try simp only [List.getElem_toArray, List.getElem_cons_succ, List.getElem_cons_zero, Act.put, List.setIfInBounds_toArray, List.set_cons_zero, List.set_cons_succ])
  refine wpAnyH_take (i := 35) (oi := _) (v := ?vsh35) rfl (by kernel_rfl) (by kernel_rfl) (by kernel_rfl) (fun _ _ _ h => h) (Or.inl ⟨by rfl, ?ysh35⟩) (by assumption) ?rsh35
  case ysh35 => (intro w hSw; go_simp; try with_reducible rfl)
  (try simp only [List.getElem_toArray, List.getElem_cons_succ, List.getElem_cons_zero, Act.put, List.setIfInBounds_toArray, List.set_cons_zero, List.set_cons_succ])
  refine wpAnyH_take (i := 36) (oi := _) (v := ?vsh36) rfl (by kernel_rfl) (by kernel_rfl) (by kernel_rfl) (fun _ _ _ h => h) (Or.inl ⟨by rfl, ?ysh36⟩) (by assumption) ?rsh36
  case ysh36 => (intro w hSw; go_simp; try with_reducible rfl)
  (try simp only [List.getElem_toArray, List.getElem_cons_succ, List.getElem_cons_zero, Act.put, List.setIfInBounds_toArray, List.set_cons_zero, List.set_cons_succ])
  refine wpAnyH_take (i := 37) (oi := _) (v := ?vsh37) rfl (by kernel_rfl) (by kernel_rfl) (by kernel_rfl) (fun _ _ _ h => h) (Or.inl ⟨by rfl, ?ysh37⟩) (by assumption) ?rsh37
  case ysh37 => (intro w hSw; go_simp; try with_reducible rfl)
  (try simp only [List.getElem_toArray, List.getElem_cons_succ, List.getElem_cons_zero, Act.put, List.setIfInBounds_toArray, List.set_cons_zero, List.set_cons_succ])
  refine wpAnyH_take (i := 38) (oi := _) (v := ?vsh38) rfl (by kernel_rfl) (by kernel_rfl) (by kernel_rfl) (fun _ _ _ h => h) (Or.inl ⟨by rfl, ?ysh38⟩) (by assumption) ?rsh38
  case ysh38 => (intro w hSw; go_simp; try with_reducible rfl)
  (try simp only [List.getElem_toArray, List.getElem_cons_succ, List.getElem_cons_zero, Act.put, List.setIfInBounds_toArray, List.set_cons_zero, List.set_cons_succ])
  refine wpAnyH_take (i := 39) (oi := _) (v := ?vsh39) rfl (by kernel_rfl) (by kernel_rfl) (by kernel_rfl) (fun _ _ _ h => h) (Or.inl ⟨by rfl, ?ysh39⟩) (by assumption) ?rsh39
  case ysh39 => (intro w hSw; go_simp; try with_reducible rfl)
  (try simp only [List.getElem_toArray, List.getElem_cons_succ, List.getElem_cons_zero, Act.put, List.setIfInBounds_toArray, List.set_cons_zero, List.set_cons_succ])
  refine wpAnyH_take (i := 40) (oi := _) (v := ?vsh40) rfl (by kernel_rfl) (by kernel_rfl) (by kernel_rfl) (fun _ _ _ h => h) (Or.inl ⟨by rfl, ?ysh40⟩) (by assumption) ?rsh40
  case ysh40 => (intro w hSw; go_simp; try with_reducible rfl)
  (try simp only [List.getElem_toArray, List.getElem_cons_succ, List.getElem_cons_zero, Act.put, List.setIfInBounds_toArray, List.set_cons_zero, List.set_cons_succ])
  refine wpAnyH_take (i := 41) (oi := _) (v := ?vsh41) rfl (by kernel_rfl) (by kernel_rfl) (by kernel_rfl) (fun _ _ _ h => h) (Or.inl ⟨by rfl, ?ysh41⟩) (by assumption) ?rsh41
  case ysh41 => (intro w hSw; go_simp; try with_reducible rfl)
  (try simp only [List.getElem_toArray, List.getElem_cons_succ, List.getElem_cons_zero, Act.put, List.setIfInBounds_toArray, List.set_cons_zero, List.set_cons_succ])
  refine wpAnyH_ready (rs := [42]) (by kernel_rfl) (by simp) ?_
  refine AllReadyH.cons (o := _) rfl (fun K hK => ?_) AllReadyH.nil
  (try simp only [List.getElem_toArray, List.getElem_cons_succ, List.getElem_cons_zero])
  go_simp
  refine (FC.out _ (by assumption)).mono ?_
  clear X
  rintro e w19 ⟨rfl, X⟩
  refine hK.out _ _ ?_ (fun hHeld => ?_)
  · exact X
  clear hK K
  (try simp only [List.getElem_toArray, List.getElem_cons_succ, List.getElem_cons_zero, Act.put, List.setIfInBounds_toArray, List.set_cons_zero, List.set_cons_succ])
  refine wpAnyH_take (i := 43) (oi := _) (v := ?vsh43) rfl (by kernel_rfl) (by kernel_rfl) (by kernel_rfl) (fun _ _ _ h => h) (Or.inl ⟨by rfl, ?ysh43⟩) (by assumption) ?rsh43
  case ysh43 => (intro w hSw; go_simp; try with_reducible rfl)
  (try simp only [List.getElem_toArray, List.getElem_cons_succ, List.getElem_cons_zero, Act.put, List.setIfInBounds_toArray, List.set_cons_zero, List.set_cons_succ])
  refine wpAnyH_take (i := 44) (oi := _) (v := ?vsh44) rfl (by kernel_rfl) (by kernel_rfl) (by kernel_rfl) (fun _ _ _ h => h) (Or.inl ⟨by rfl, ?ysh44⟩) (by assumption) ?rsh44
  case ysh44 => (intro w hSw; go_simp; try with_reducible rfl)
  (try simp only [List.getElem_toArray, List.getElem_cons_succ, List.getElem_cons_zero, Act.put, List.setIfInBounds_toArray, List.set_cons_zero, List.set_cons_succ])
  refine wpAnyH_take (i := 45) (oi := _) (v := ?vsh45) rfl (by kernel_rfl) (by kernel_rfl) (by kernel_rfl) (fun _ _ _ h => h) (Or.inl ⟨by rfl, ?ysh45⟩) (by assumption) ?rsh45
  case ysh45 => (intro w hSw; go_simp; try with_reducible rfl)
  (try simp only [List.getElem_toArray, List.getElem_cons_succ, List.getElem_cons_zero, Act.put, List.setIfInBounds_toArray, List.set_cons_zero, List.set_cons_succ])
  refine wpAnyH_take (i := 46) (oi := _) (v := ?vsh46) rfl (by kernel_rfl) (by kernel_rfl) (by kernel_rfl) (fun _ _ _ h => h) (Or.inl ⟨by rfl, ?ysh46⟩) (by assumption) ?rsh46
  case ysh46 => (intro w hSw; go_simp; try with_reducible rfl)
  (try simp only [List.getElem_toArray, List.getElem_cons_succ, List.getElem_cons_zero, Act.put, List.setIfInBounds_toArray, List.set_cons_zero, List.set_cons_succ])
  refine wpAnyH_ready (rs := [47]) (by kernel_rfl) (by simp) ?_
  refine AllReadyH.cons (o := _) rfl (fun K hK => ?_) AllReadyH.nil
  (try simp only [List.getElem_toArray, List.getElem_cons_succ, List.getElem_cons_zero])
  go_simp
  refine (FB.out _ (by assumption)).mono ?_
  clear X
  rintro e w20 ⟨rfl, X⟩
  refine hK.out _ _ ?_ (fun hHeld => ?_)
  · exact X
  clear hK K
  (try simp only [List.getElem_toArray, List.getElem_cons_succ, List.getElem_cons_zero, Act.put, List.setIfInBounds_toArray, List.set_cons_zero, List.set_cons_succ])
  refine wpAnyH_take (i := 48) (oi := _) (v := ?vsh48) rfl (by kernel_rfl) (by kernel_rfl) (by kernel_rfl) (fun _ _ _ h => h) (Or.inl ⟨by rfl, ?ysh48⟩) (by assumption) ?rsh48
  case ysh48 => (intro w hSw; go_simp; try with_reducible rfl)
  (try simp only [List.getElem_toArray, List.getElem_cons_succ, List.getElem_cons_zero, Act.put, List.setIfInBounds_toArray, List.set_cons_zero, List.set_cons_succ])
  refine wpAnyH_take (i := 49) (oi := _) (v := ?vsh49) rfl (by kernel_rfl) (by kernel_rfl) (by kernel_rfl) (fun _ _ _ h => h) (Or.inl ⟨by rfl, ?ysh49⟩) (by assumption) ?rsh49
  case ysh49 => (intro w hSw; go_simp; try with_reducible rfl)
  (try simp only [List.getElem_toArray, List.getElem_cons_succ, List.getElem_cons_zero, Act.put, List.setIfInBounds_toArray, List.set_cons_zero, List.set_cons_succ])
  refine wpAnyH_take (i := 50) (oi := _) (v := ?vsh50) rfl (by kernel_rfl) (by kernel_rfl) (by kernel_rfl) (fun _ _ _ h => h) (Or.inl ⟨by rfl, ?ysh50⟩) (by assumption) ?rsh50
  case ysh50 => (intro w hSw; go_simp; try with_reducible rfl)
  (try simp only [List.getElem_toArray, List.getElem_cons_succ, List.getElem_cons_zero, Act.put, List.setIfInBounds_toArray, List.set_cons_zero, List.set_cons_succ])
  refine wpAnyH_done (by kernel_rfl) ?_ _
  go_wp2
  go_ret
  exact ⟨rfl, Y.out.trans X (fun _ _ h => h)⟩
end Go.Proofs.Ytedcpmkfanlicaa
