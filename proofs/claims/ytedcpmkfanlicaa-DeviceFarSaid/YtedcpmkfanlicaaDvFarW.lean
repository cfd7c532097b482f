/- DeviceFar's walk. -/
import Derived.Test.YtedcpmkfanlicaaDvWr
import Derived.Deep.RegionHeld3
set_option linter.unusedVariables false
set_option linter.unusedSimpArgs false
namespace Go.Proofs.Ytedcpmkfanlicaa
open Go Go.RowKit Go.Sort Go.Lib Go.Maps
def farS (blocks c : Int) : St := settleS (callS (callS (callS (putS (callS (newS blocks)) ((newS blocks).d.n - 1) (content c)))))
theorem far_last (blocks c : Int) : newest (farS blocks c).G (farS blocks c).lo ((newS blocks).d.n - 1) = content c := by
  simp [farS, settleS, callS, putS, newS, newest, look, putL, settleG, resF, putG]
theorem far_first (blocks c : Int) : newest (farS blocks c).G (farS blocks c).lo 0 = if (newS blocks).d.n = 1 then content c else zeroBlk := by
  by_cases h : (newS blocks).d.n = 1
  · rw [if_pos h]
    have := far_last blocks c
    rw [h] at this
    exact this
  · rw [if_neg h]
    have h' : ¬ (0 = (newS blocks).d.n - 1) := by omega
    simp only [newS] at h'
    simp [farS, settleS, callS, putS, newS, newest, look, putL, settleG, resF, putG, h']
set_option maxHeartbeats 4000000 in
set_option maxRecDepth 100000 in
theorem deviceFar_any (w : World) (blocks c : Int) (hbl : wfK blocks) (hc : wfK c) : Calls Try.prog 4 #[.int .i64 blocks, .int .i64 c] w fun e w' => e = .returned (.bool true) ∧ Chg (fun _ => False) w w' := by
  have mixed := Try.mixed
  have S0 := Lib.hid (shown_any w)
  obtain ⟨n, hn⟩ : ∃ n, n = (newS blocks).d.n := ⟨_, rfl⟩
  have en : max 1 (min blocks 4294967296) = n := by rw [hn]; show _ = min (max blocks 1) 4294967296; omega
  have n1 : 1 ≤ n := by rw [hn]; show 1 ≤ min (max blocks 1) 4294967296; omega
  have n2 : n ≤ 4294967296 := by rw [hn]; show min (max blocks 1) 4294967296 ≤ _; omega
  have wf0 : Hid (wfK 0) := wf_small (by decide) (by decide)
  have wfn : Hid (wfK n) := (wfK_iff n).2 ⟨by omega, by omega⟩
  have wfn1 : Hid (wfK (n - 1)) := (wfK_iff _).2 ⟨by omega, by omega⟩
  have wfm : Hid (wfK (-1)) := (wfK_iff _).2 ⟨by omega, by omega⟩
  have e1 : IntKind.i64.wrap (n - 1) = n - 1 := wrap_in _ _ (by omega) (by omega) rfl
  have HN := Lib.hid hn
  clear hn
  have FL := Lib.hid (far_last blocks c)
  have FF := Lib.hid (far_first blocks c)
  go_enter Try.func4, Try.ntmps4
  go_wp2_with fail
  refine S0.out.mono ?_
  rintro e w0 ⟨rfl, Y0⟩
  have Y : Hid (Chg (fun _ => False) w w0) := Y0
  clear Y0 S0
  have q := Lib.hid (new_st blocks w0)
  go_wp2_with fail
  refine q.out.mono ?_
  rintro e w1 ⟨rfl, DD, X⟩
  obtain ⟨L, hL⟩ : ∃ L : Loc, L = ⟨w0.heap.size + 2, w0.heap.size, w0.heap.size + 1⟩ := ⟨_, rfl⟩
  have eL : w0.heap.size + 2 = L.p := by rw [hL]
  have fr : Hid (∀ i, Foot L i → w.heap.size ≤ i) := by have := Y.out.size; rw [hL]; rintro i (rfl | rfl | rfl) <;> (simp only; omega)
  have D : Hid (DvIs w1 L (newS blocks) 0) := by rw [hL]; exact DD
  have Y : Hid (Chg (fun _ => False) w w1) := Y.out.trans X (fun i hi h => h.elim)
  rw [eL]
  clear q X DD hL eL
  have q := Lib.hid (blocks_st D.out)
  rw [← HN.out] at q
  go_wp2_with fail
  refine q.out.mono ?_
  rintro e w2 ⟨rfl, hw⟩
  have hw := hw.symm
  subst hw
  clear q
  have q := Lib.hid (content_st c w1)
  go_wp2_with fail
  refine q.out.mono ?_
  rintro e w2 ⟨rfl, LC, X⟩
  have gp : w1.heap.size ≠ L.p := fun e => by have := D.out.lt _ (.inl rfl); omega
  have D := Lib.hid (D.out.ext X)
  have Y : Hid (Chg (fun _ => False) w w2) := Y.out.trans X (fun i hi h => h.elim)
  have q := (write_st (cb := 512) D.out (by decide) wfn1.out LC gp (full_content c))
  rw [writeS_up (s := newS blocks) (k := n - 1) rfl (Int.le_refl _) (by omega) (by rw [← HN.out]; omega)] at q
  have q := Lib.hid q
  clear gp LC X
  go_wp2_with fail
  refine q.out.mono ?_
  rintro e w3 ⟨rfl, DD, X⟩
  have D : Hid (DvIs w3 L (putS (callS (newS blocks)) (n - 1) (content c)) 1) := DD
  have Y : Hid (Chg (fun _ => False) w w3) := Y.out.trans X (fun i hi h => absurd hi (by have := fr.out i h; omega))
  clear q X DD
  have q := Lib.hid (content_st c w3)
  go_wp2_with fail
  refine q.out.mono ?_
  rintro e w4 ⟨rfl, LC, X⟩
  have gp : w3.heap.size ≠ L.p := fun e => by have := D.out.lt _ (.inl rfl); omega
  have D := Lib.hid (D.out.ext X)
  have Y : Hid (Chg (fun _ => False) w w4) := Y.out.trans X (fun i hi h => h.elim)
  have q := (write_st (cb := 512) D.out (by decide) wfn.out LC gp (full_content c))
  rw [writeS_out (s := (putS (callS (newS blocks)) (n - 1) (content c))) (k := n) rfl (Int.le_refl _) (.inr (by show (newS blocks).d.n ≤ n; rw [← HN.out]; exact Int.le_refl _))] at q
  have q := Lib.hid q
  clear gp LC X
  go_wp2_with fail
  refine q.out.mono ?_
  rintro e w5 ⟨rfl, DD, X⟩
  have D : Hid (DvIs w5 L (callS (putS (callS (newS blocks)) (n - 1) (content c))) 2) := DD
  have Y : Hid (Chg (fun _ => False) w w5) := Y.out.trans X (fun i hi h => absurd hi (by have := fr.out i h; omega))
  clear q X DD
  have q := Lib.hid (content_st c w5)
  go_wp2_with fail
  refine q.out.mono ?_
  rintro e w6 ⟨rfl, LC, X⟩
  have gp : w5.heap.size ≠ L.p := fun e => by have := D.out.lt _ (.inl rfl); omega
  have D := Lib.hid (D.out.ext X)
  have Y : Hid (Chg (fun _ => False) w w6) := Y.out.trans X (fun i hi h => h.elim)
  have q := (write_st (cb := 512) D.out (by decide) wfm.out LC gp (full_content c))
  rw [writeS_out (s := callS (putS (callS (newS blocks)) (n - 1) (content c))) (k := -1) rfl (Int.le_refl _) (.inl (by decide))] at q
  have q := Lib.hid q
  clear gp LC X
  go_wp2_with fail
  refine q.out.mono ?_
  rintro e w7 ⟨rfl, DD, X⟩
  have D : Hid (DvIs w7 L (callS (callS (putS (callS (newS blocks)) (n - 1) (content c)))) 3) := DD
  have Y : Hid (Chg (fun _ => False) w w7) := Y.out.trans X (fun i hi h => absurd hi (by have := fr.out i h; omega))
  clear q X DD
  have q := flush_st D.out (by decide)
  rw [flushS_up (s := callS (callS (putS (callS (newS blocks)) (n - 1) (content c)))) rfl (Int.le_refl _)] at q
  have q := Lib.hid q
  go_wp2_with fail
  refine q.out.mono ?_
  rintro e w8 ⟨rfl, DD, X⟩
  have D : Hid (DvIs w8 L (farS blocks c) 4) := by show DvIs _ _ (settleS (callS (callS (callS (putS (callS (newS blocks)) ((newS blocks).d.n - 1) (content c)))))) _; rw [← HN.out]; exact DD
  have Y : Hid (Chg (fun _ => False) w w8) := Y.out.trans X (fun i hi h => absurd hi (by have := fr.out i h; omega))
  clear q X DD
  have q := Lib.hid (read_st D.out wfn1.out (mayS_in rfl (by omega) (by show n - 1 < (newS blocks).d.n; rw [← HN.out]; omega)))
  go_wp2_with fail
  refine q.out.mono ?_
  rintro e w9 ⟨rfl, B, X⟩
  have R0 : CellsAt w9 w8.heap.size 0 (blkCells (newest (farS blocks c).G (farS blocks c).lo (n - 1))) := cellsAt_blk B
  rw [HN.out, FL.out] at R0
  have R0 := Lib.hid R0
  have D := Lib.hid (D.out.ext X)
  have Y : Hid (Chg (fun _ => False) w w9) := Y.out.trans X (fun i hi h => h.elim)
  clear q X B FL
  have q := Lib.hid (read_st D.out wf0.out (mayS_in rfl (by decide) (by show 0 < (newS blocks).d.n; rw [← HN.out]; omega)))
  go_wp2_with fail
  refine q.out.mono ?_
  rintro e w10 ⟨rfl, B, X⟩
  have R1 : CellsAt w10 w9.heap.size 0 (blkCells (newest (farS blocks c).G (farS blocks c).lo 0)) := cellsAt_blk B
  rw [FF.out, ← HN.out] at R1
  have R1 := Lib.hid R1
  have R0 := Lib.hid (X.cells R0.out id)
  have D := Lib.hid (D.out.ext X)
  have Y : Hid (Chg (fun _ => False) w w10) := Y.out.trans X (fun i hi h => h.elim)
  clear q X B FF
  have em : mayS (farS blocks c) n = 1 := by
    show (if false = true then (11 : Int) else if n < 0 ∨ (newS blocks).d.n ≤ n then 1 else 0) = 1
    rw [if_neg (by simp), if_pos (.inr (by rw [← HN.out]; exact Int.le_refl _))]
  have q := read_st_no D.out n (by rw [em]; decide)
  rw [em] at q
  have q := Lib.hid q
  clear em
  go_wp2_with fail
  refine q.out.mono ?_
  rintro e w11 ⟨rfl, hw⟩
  have hw := hw.symm
  subst hw
  clear q
  have q := Lib.hid (noughts_any w10)
  go_wp2_with fail
  refine q.out.mono ?_
  rintro e w11 ⟨rfl, X⟩
  have R0 := Lib.hid (X.cells R0.out id)
  have R1 := Lib.hid (X.cells R1.out id)
  have D := Lib.hid (D.out.ext X)
  have Y : Hid (Chg (fun _ => False) w w11) := Y.out.trans X (fun i hi h => h.elim)
  clear q X
  by_cases hn1 : n = 1
  · rw [if_pos hn1] at R1
    have q := Lib.hid (content_st c w11)
    go_wp2_with fail
    refine q.out.mono ?_
    rintro e w12 ⟨rfl, LC, X⟩
    have cvw := conv_blk _ (full_content c).1 w12 _ 0 512 LC
    have R0 := Lib.hid (X.cells R0.out id)
    have R1 := Lib.hid (X.cells R1.out id)
    have D := Lib.hid (D.out.ext X)
    have Y : Hid (Chg (fun _ => False) w w12) := Y.out.trans X (fun i hi h => h.elim)
    clear q X LC
    have cv0 : ∀ W, Chg (fun _ => False) w12 W → (convert 31 9 (.slice (some ⟨w8.heap.size, 0, none⟩) 512 512)).run Try.prog W = .ok (.string (strB (content c))) W := fun W X => conv_blk _ (full_content c).1 W _ 0 512 (X.cells R0.out id)
    have cv1 : ∀ W, Chg (fun _ => False) w12 W → (convert 31 9 (.slice (some ⟨w9.heap.size, 0, none⟩) 512 512)).run Try.prog W = .ok (.string (strB (content c))) W := fun W X => conv_blk _ (full_content c).1 W _ 0 512 (X.cells R1.out id)
    have FA : Hid (∀ W, Chg (fun _ => False) w12 W → Calls Try.prog 13 #[.int .i64 c] W fun e w' => e = .returned (.slice (some ⟨W.heap.size, 0, none⟩) 512 512) ∧ (convert 31 9 (.slice (some ⟨W.heap.size, 0, none⟩) 512 512)).run Try.prog w' = .ok (.string (strB (content c))) w' ∧ Chg (fun _ => False) w12 w') := fun W X =>
      (content_st c W).mono fun e w' ⟨he, LC, X'⟩ => ⟨he, conv_blk _ (full_content c).1 w' _ 0 512 LC, X.trans X' (fun _ _ h => h)⟩
    have FC : Hid (∀ W, Chg (fun _ => False) w12 W → Calls Try.prog 16 #[.pointer (some ⟨L.p, 0, none⟩)] W fun e w' => e = .returned (.int .i64 4) ∧ Chg (fun _ => False) w12 w') := fun W X =>
      (calls_st (D.out.ext X)).mono fun e w' ⟨he, L⟩ => ⟨he, by rw [L]; exact X⟩
    have KD : Hid (Chg (fun _ => False) w12 w12.drew) := (Ext.refl w12).drew.chg _
    clear R0 R1 D HN fr wf0 wfn wfn1 wfm
    generalize strB (content c) = sv0 at *
    try generalize strB zeroBlk = sv2 at *
    go_upto_region 14 with fail
    refine wp_region_held_drew (S := fun W => Chg (fun _ => False) w12 W) (by kernel_rfl) KD.out (fun hHeld => ?_)
    refine wpAnyH_take (i := 0) (oi := _) (v := ?vfa0) rfl (by kernel_rfl) (by kernel_rfl) (by kernel_rfl) (fun _ _ _ h => h) (Or.inl ⟨by rfl, ?yfa0⟩) (by assumption) ?rfa0
    case yfa0 => (intro w hSw; go_simp; try with_reducible rfl)
    (try simp only [List.getElem_toArray, List.getElem_cons_succ, List.getElem_cons_zero, Act.put, List.setIfInBounds_toArray, List.set_cons_zero, List.set_cons_succ])
    refine wpAnyH_take (i := 1) (oi := _) (v := ?vfa1) rfl (by kernel_rfl) (by kernel_rfl) (by kernel_rfl) (fun _ _ _ h => h) (Or.inl ⟨by rfl, ?yfa1⟩) (by assumption) ?rfa1
    case yfa1 => (intro w hSw; go_simp; try with_reducible rfl)
    (try simp only [List.getElem_toArray, List.getElem_cons_succ, List.getElem_cons_zero, Act.put, List.setIfInBounds_toArray, List.set_cons_zero, List.set_cons_succ])
    refine wpAnyH_take (i := 2) (oi := _) (v := ?vfa2) rfl (by kernel_rfl) (by kernel_rfl) (by kernel_rfl) (fun _ _ _ h => h) (Or.inl ⟨by rfl, ?yfa2⟩) (by assumption) ?rfa2
    case yfa2 => (intro w hSw; go_simp; try with_reducible rfl)
    (try simp only [List.getElem_toArray, List.getElem_cons_succ, List.getElem_cons_zero, Act.put, List.setIfInBounds_toArray, List.set_cons_zero, List.set_cons_succ])
    refine wpAnyH_take (i := 3) (oi := _) (v := ?vfa3) rfl (by kernel_rfl) (by kernel_rfl) (by kernel_rfl) (fun _ _ _ h => h) (Or.inl ⟨by rfl, ?yfa3⟩) (by assumption) ?rfa3
    case yfa3 => (intro w hSw; go_simp; try with_reducible rfl)
    (try simp only [List.getElem_toArray, List.getElem_cons_succ, List.getElem_cons_zero, Act.put, List.setIfInBounds_toArray, List.set_cons_zero, List.set_cons_succ])
    refine wpAnyH_take (i := 4) (oi := _) (v := ?vfa4) rfl (by kernel_rfl) (by kernel_rfl) (by kernel_rfl) (fun _ _ _ h => h) (Or.inl ⟨by rfl, ?yfa4⟩) (by assumption) ?rfa4
    case yfa4 => (intro w hSw; go_simp; try with_reducible rfl)
    (try simp only [List.getElem_toArray, List.getElem_cons_succ, List.getElem_cons_zero, Act.put, List.setIfInBounds_toArray, List.set_cons_zero, List.set_cons_succ])
    refine wpAnyH_ready (rs := [5]) (by kernel_rfl) (by simp) ?_
    refine AllReadyH.cons (o := _) rfl (fun K hK => ?_) AllReadyH.nil
    (try simp only [List.getElem_toArray, List.getElem_cons_succ, List.getElem_cons_zero])
    go_simp
    refine (FA.out _ (by assumption)).mono ?_
    rintro e wA ⟨rfl, cvA, X⟩
    have cvA : (convert 31 9 (.slice (some ⟨w12.heap.size, 0, none⟩) 512 512)).run Try.prog wA = .ok (.string sv0) wA := cvA
    refine hK.out _ _ ?_ (fun hHeld => ?_)
    · exact X
    clear hK K
    (try simp only [List.getElem_toArray, List.getElem_cons_succ, List.getElem_cons_zero, Act.put, List.setIfInBounds_toArray, List.set_cons_zero, List.set_cons_succ])
    refine wpAnyH_ready (rs := [6]) (by kernel_rfl) (by simp) ?_
    refine AllReadyH.cons (o := _) rfl (fun K hK => ?_) AllReadyH.nil
    (try simp only [List.getElem_toArray, List.getElem_cons_succ, List.getElem_cons_zero])
    go_simp
    refine hK.out _ _ ?_ (fun hHeld => ?_)
    · exact X
    clear hK K
    (try simp only [List.getElem_toArray, List.getElem_cons_succ, List.getElem_cons_zero, Act.put, List.setIfInBounds_toArray, List.set_cons_zero, List.set_cons_succ])
    refine wpAnyH_take (i := 7) (oi := _) (v := ?vfa7) rfl (by kernel_rfl) (by kernel_rfl) (by kernel_rfl) (fun _ _ _ h => h) (Or.inl ⟨by rfl, ?yfa7⟩) (by assumption) ?rfa7
    case yfa7 => (intro w hSw; go_simp; try with_reducible rfl)
    (try simp only [List.getElem_toArray, List.getElem_cons_succ, List.getElem_cons_zero, Act.put, List.setIfInBounds_toArray, List.set_cons_zero, List.set_cons_succ])
    refine wpAnyH_take (i := 8) (oi := _) (v := ?vfa8) rfl (by kernel_rfl) (by kernel_rfl) (by kernel_rfl) (fun _ _ _ h => h) (Or.inl ⟨by rfl, ?yfa8⟩) (by assumption) ?rfa8
    case yfa8 => (intro w hSw; go_simp; try with_reducible rfl)
    (try simp only [List.getElem_toArray, List.getElem_cons_succ, List.getElem_cons_zero, Act.put, List.setIfInBounds_toArray, List.set_cons_zero, List.set_cons_succ])
    refine wpAnyH_take (i := 9) (oi := _) (v := ?vfa9) rfl (by kernel_rfl) (by kernel_rfl) (by kernel_rfl) (fun _ _ _ h => h) (Or.inl ⟨by rfl, ?yfa9⟩) (by assumption) ?rfa9
    case yfa9 => (intro w hSw; go_simp; try with_reducible rfl)
    (try simp only [List.getElem_toArray, List.getElem_cons_succ, List.getElem_cons_zero, Act.put, List.setIfInBounds_toArray, List.set_cons_zero, List.set_cons_succ])
    refine wpAnyH_take (i := 10) (oi := _) (v := ?vfa10) rfl (by kernel_rfl) (by kernel_rfl) (by kernel_rfl) (fun _ _ _ h => h) (Or.inl ⟨by rfl, ?yfa10⟩) (by assumption) ?rfa10
    case yfa10 => (intro w hSw; go_simp; try with_reducible rfl)
    (try simp only [List.getElem_toArray, List.getElem_cons_succ, List.getElem_cons_zero, Act.put, List.setIfInBounds_toArray, List.set_cons_zero, List.set_cons_succ])
    refine wpAnyH_take (i := 11) (oi := _) (v := ?vfa11) rfl (by kernel_rfl) (by kernel_rfl) (by kernel_rfl) (fun _ _ _ h => h) (Or.inl ⟨by rfl, ?yfa11⟩) (by assumption) ?rfa11
    case yfa11 => (intro w hSw; go_simp; try with_reducible rfl)
    (try simp only [List.getElem_toArray, List.getElem_cons_succ, List.getElem_cons_zero, Act.put, List.setIfInBounds_toArray, List.set_cons_zero, List.set_cons_succ])
    refine wpAnyH_take (i := 12) (oi := _) (v := ?vfa12) rfl (by kernel_rfl) (by kernel_rfl) (by kernel_rfl) (fun _ _ _ h => h) (Or.inl ⟨by rfl, ?yfa12⟩) (by assumption) ?rfa12
    case yfa12 => (intro w hSw; go_simp; try with_reducible rfl)
    (try simp only [List.getElem_toArray, List.getElem_cons_succ, List.getElem_cons_zero, Act.put, List.setIfInBounds_toArray, List.set_cons_zero, List.set_cons_succ])
    refine wpAnyH_take (i := 13) (oi := _) (v := ?vfa13) rfl (by kernel_rfl) (by kernel_rfl) (by kernel_rfl) (fun _ _ _ h => h) (Or.inl ⟨by rfl, ?yfa13⟩) (by assumption) ?rfa13
    case yfa13 => (intro w hSw; go_simp; try with_reducible rfl)
    (try simp only [List.getElem_toArray, List.getElem_cons_succ, List.getElem_cons_zero, Act.put, List.setIfInBounds_toArray, List.set_cons_zero, List.set_cons_succ])
    refine wpAnyH_take (i := 14) (oi := _) (v := ?vfa14) rfl (by kernel_rfl) (by kernel_rfl) (by kernel_rfl) (fun _ _ _ h => h) (Or.inl ⟨by rfl, ?yfa14⟩) (by assumption) ?rfa14
    case yfa14 => (intro w hSw; go_simp; try with_reducible rfl)
    (try simp only [List.getElem_toArray, List.getElem_cons_succ, List.getElem_cons_zero, Act.put, List.setIfInBounds_toArray, List.set_cons_zero, List.set_cons_succ])
    refine wpAnyH_take (i := 15) (oi := _) (v := ?vfa15) rfl (by kernel_rfl) (by kernel_rfl) (by kernel_rfl) (fun _ _ _ h => h) (Or.inl ⟨by rfl, ?yfa15⟩) (by assumption) ?rfa15
    case yfa15 => (intro w hSw; go_simp; try with_reducible rfl)
    (try simp only [List.getElem_toArray, List.getElem_cons_succ, List.getElem_cons_zero, Act.put, List.setIfInBounds_toArray, List.set_cons_zero, List.set_cons_succ])
    refine wpAnyH_take (i := 16) (oi := _) (v := ?vfa16) rfl (by kernel_rfl) (by kernel_rfl) (by kernel_rfl) (fun _ _ _ h => h) (Or.inl ⟨by rfl, ?yfa16⟩) (by assumption) ?rfa16
    case yfa16 => (intro w hSw; go_simp; try with_reducible rfl)
    (try simp only [List.getElem_toArray, List.getElem_cons_succ, List.getElem_cons_zero, Act.put, List.setIfInBounds_toArray, List.set_cons_zero, List.set_cons_succ])
    refine wpAnyH_take (i := 17) (oi := _) (v := ?vfa17) rfl (by kernel_rfl) (by kernel_rfl) (by kernel_rfl) (fun _ _ _ h => h) (Or.inl ⟨by rfl, ?yfa17⟩) (by assumption) ?rfa17
    case yfa17 => (intro w hSw; go_simp; try with_reducible rfl)
    (try simp only [List.getElem_toArray, List.getElem_cons_succ, List.getElem_cons_zero, Act.put, List.setIfInBounds_toArray, List.set_cons_zero, List.set_cons_succ])
    refine wpAnyH_take (i := 18) (oi := _) (v := ?vfa18) rfl (by kernel_rfl) (by kernel_rfl) (by kernel_rfl) (fun _ _ _ h => h) (Or.inl ⟨by rfl, ?yfa18⟩) (by assumption) ?rfa18
    case yfa18 => (intro w hSw; go_simp; try with_reducible rfl)
    (try simp only [List.getElem_toArray, List.getElem_cons_succ, List.getElem_cons_zero, Act.put, List.setIfInBounds_toArray, List.set_cons_zero, List.set_cons_succ])
    refine wpAnyH_take (i := 19) (oi := _) (v := ?vfa19) rfl (by kernel_rfl) (by kernel_rfl) (by kernel_rfl) (fun _ _ _ h => h) (Or.inl ⟨by rfl, ?yfa19⟩) (by assumption) ?rfa19
    case yfa19 => (intro w hSw; go_simp; try with_reducible rfl)
    (try simp only [List.getElem_toArray, List.getElem_cons_succ, List.getElem_cons_zero, Act.put, List.setIfInBounds_toArray, List.set_cons_zero, List.set_cons_succ])
    refine wpAnyH_take (i := 20) (oi := _) (v := ?vfa20) rfl (by kernel_rfl) (by kernel_rfl) (by kernel_rfl) (fun _ _ _ h => h) (Or.inl ⟨by rfl, ?yfa20⟩) (by assumption) ?rfa20
    case yfa20 => (intro w hSw; go_simp; try with_reducible rfl)
    (try simp only [List.getElem_toArray, List.getElem_cons_succ, List.getElem_cons_zero, Act.put, List.setIfInBounds_toArray, List.set_cons_zero, List.set_cons_succ])
    refine wpAnyH_take (i := 21) (oi := _) (v := ?vfa21) rfl (by kernel_rfl) (by kernel_rfl) (by kernel_rfl) (fun _ _ _ h => h) (Or.inl ⟨by rfl, ?yfa21⟩) (by assumption) ?rfa21
    case yfa21 => (intro w hSw; go_simp; try with_reducible rfl)
    (try simp only [List.getElem_toArray, List.getElem_cons_succ, List.getElem_cons_zero, Act.put, List.setIfInBounds_toArray, List.set_cons_zero, List.set_cons_succ])
    refine wpAnyH_take (i := 22) (oi := _) (v := ?vfa22) rfl (by kernel_rfl) (by kernel_rfl) (by kernel_rfl) (fun _ _ _ h => h) (Or.inl ⟨by rfl, ?yfa22⟩) (by assumption) ?rfa22
    case yfa22 => (intro w hSw; go_simp; try with_reducible rfl)
    (try simp only [List.getElem_toArray, List.getElem_cons_succ, List.getElem_cons_zero, Act.put, List.setIfInBounds_toArray, List.set_cons_zero, List.set_cons_succ])
    refine wpAnyH_take (i := 23) (oi := _) (v := ?vfa23) rfl (by kernel_rfl) (by kernel_rfl) (by kernel_rfl) (fun _ _ _ h => h) (Or.inl ⟨by rfl, ?yfa23⟩) (by assumption) ?rfa23
    case yfa23 => (intro w hSw; go_simp; try with_reducible rfl)
    (try simp only [List.getElem_toArray, List.getElem_cons_succ, List.getElem_cons_zero, Act.put, List.setIfInBounds_toArray, List.set_cons_zero, List.set_cons_succ])
    refine wpAnyH_take (i := 24) (oi := _) (v := ?vfa24) rfl (by kernel_rfl) (by kernel_rfl) (by kernel_rfl) (fun _ _ _ h => h) (Or.inl ⟨by rfl, ?yfa24⟩) (by assumption) ?rfa24
    case yfa24 => (intro w hSw; go_simp; try with_reducible rfl)
    (try simp only [List.getElem_toArray, List.getElem_cons_succ, List.getElem_cons_zero, Act.put, List.setIfInBounds_toArray, List.set_cons_zero, List.set_cons_succ])
    refine wpAnyH_take (i := 25) (oi := _) (v := ?vfa25) rfl (by kernel_rfl) (by kernel_rfl) (by kernel_rfl) (fun _ _ _ h => h) (Or.inl ⟨by rfl, ?yfa25⟩) (by assumption) ?rfa25
    case yfa25 => (intro w hSw; go_simp; try with_reducible rfl)
    (try simp only [List.getElem_toArray, List.getElem_cons_succ, List.getElem_cons_zero, Act.put, List.setIfInBounds_toArray, List.set_cons_zero, List.set_cons_succ])
    refine wpAnyH_take (i := 26) (oi := _) (v := ?vfa26) rfl (by kernel_rfl) (by kernel_rfl) (by kernel_rfl) (fun _ _ _ h => h) (Or.inl ⟨by rfl, ?yfa26⟩) (by assumption) ?rfa26
    case yfa26 => (intro w hSw; go_simp; try with_reducible rfl)
    (try simp only [List.getElem_toArray, List.getElem_cons_succ, List.getElem_cons_zero, Act.put, List.setIfInBounds_toArray, List.set_cons_zero, List.set_cons_succ])
    refine wpAnyH_take (i := 27) (oi := _) (v := ?vfa27) rfl (by kernel_rfl) (by kernel_rfl) (by kernel_rfl) (fun _ _ _ h => h) (Or.inl ⟨by rfl, ?yfa27⟩) (by assumption) ?rfa27
    case yfa27 => (intro w hSw; go_simp; try with_reducible rfl)
    (try simp only [List.getElem_toArray, List.getElem_cons_succ, List.getElem_cons_zero, Act.put, List.setIfInBounds_toArray, List.set_cons_zero, List.set_cons_succ])
    refine wpAnyH_take (i := 28) (oi := _) (v := ?vfa28) rfl (by kernel_rfl) (by kernel_rfl) (by kernel_rfl) (fun _ _ _ h => h) (Or.inl ⟨by rfl, ?yfa28⟩) (by assumption) ?rfa28
    case yfa28 => (intro w hSw; go_simp; try with_reducible rfl)
    (try simp only [List.getElem_toArray, List.getElem_cons_succ, List.getElem_cons_zero, Act.put, List.setIfInBounds_toArray, List.set_cons_zero, List.set_cons_succ])
    refine wpAnyH_ready (rs := [29]) (by kernel_rfl) (by simp) ?_
    refine AllReadyH.cons (o := _) rfl (fun K hK => ?_) AllReadyH.nil
    (try simp only [List.getElem_toArray, List.getElem_cons_succ, List.getElem_cons_zero])
    go_simp
    refine (FC.out _ (by assumption)).mono ?_
    clear X
    rintro e wC ⟨rfl, X⟩
    refine hK.out _ _ ?_ (fun hHeld => ?_)
    · exact X
    clear hK K
    (try simp only [List.getElem_toArray, List.getElem_cons_succ, List.getElem_cons_zero, Act.put, List.setIfInBounds_toArray, List.set_cons_zero, List.set_cons_succ])
    refine wpAnyH_take (i := 30) (oi := _) (v := ?vfa30) rfl (by kernel_rfl) (by kernel_rfl) (by kernel_rfl) (fun _ _ _ h => h) (Or.inl ⟨by rfl, ?yfa30⟩) (by assumption) ?rfa30
    case yfa30 => (intro w hSw; go_simp; try with_reducible rfl)
    (try simp only [List.getElem_toArray, List.getElem_cons_succ, List.getElem_cons_zero, Act.put, List.setIfInBounds_toArray, List.set_cons_zero, List.set_cons_succ])
    refine wpAnyH_take (i := 31) (oi := _) (v := ?vfa31) rfl (by kernel_rfl) (by kernel_rfl) (by kernel_rfl) (fun _ _ _ h => h) (Or.inl ⟨by rfl, ?yfa31⟩) (by assumption) ?rfa31
    case yfa31 => (intro w hSw; go_simp; try with_reducible rfl)
    (try simp only [List.getElem_toArray, List.getElem_cons_succ, List.getElem_cons_zero, Act.put, List.setIfInBounds_toArray, List.set_cons_zero, List.set_cons_succ])
    refine wpAnyH_take (i := 32) (oi := _) (v := ?vfa32) rfl (by kernel_rfl) (by kernel_rfl) (by kernel_rfl) (fun _ _ _ h => h) (Or.inl ⟨by rfl, ?yfa32⟩) (by assumption) ?rfa32
    case yfa32 => (intro w hSw; go_simp; try with_reducible rfl)
    (try simp only [List.getElem_toArray, List.getElem_cons_succ, List.getElem_cons_zero, Act.put, List.setIfInBounds_toArray, List.set_cons_zero, List.set_cons_succ])
    refine wpAnyH_done (by kernel_rfl) ?_ _
    go_wp2
    go_ret
    exact ⟨rfl, Y.out.trans X (fun _ _ h => h)⟩
  · rw [if_neg hn1] at R1
    have cv0 : ∀ W, Chg (fun _ => False) w11 W → (convert 31 9 (.slice (some ⟨w8.heap.size, 0, none⟩) 512 512)).run Try.prog W = .ok (.string (strB (content c))) W := fun W X => conv_blk _ (full_content c).1 W _ 0 512 (X.cells R0.out id)
    have cv1 : ∀ W, Chg (fun _ => False) w11 W → (convert 31 9 (.slice (some ⟨w9.heap.size, 0, none⟩) 512 512)).run Try.prog W = .ok (.string (strB zeroBlk)) W := fun W X => conv_blk _ full_zero.1 W _ 0 512 (X.cells R1.out id)
    have FA : Hid (∀ W, Chg (fun _ => False) w11 W → Calls Try.prog 13 #[.int .i64 c] W fun e w' => e = .returned (.slice (some ⟨W.heap.size, 0, none⟩) 512 512) ∧ (convert 31 9 (.slice (some ⟨W.heap.size, 0, none⟩) 512 512)).run Try.prog w' = .ok (.string (strB (content c))) w' ∧ Chg (fun _ => False) w11 w') := fun W X =>
      (content_st c W).mono fun e w' ⟨he, LC, X'⟩ => ⟨he, conv_blk _ (full_content c).1 w' _ 0 512 LC, X.trans X' (fun _ _ h => h)⟩
    have FC : Hid (∀ W, Chg (fun _ => False) w11 W → Calls Try.prog 16 #[.pointer (some ⟨L.p, 0, none⟩)] W fun e w' => e = .returned (.int .i64 4) ∧ Chg (fun _ => False) w11 w') := fun W X =>
      (calls_st (D.out.ext X)).mono fun e w' ⟨he, L⟩ => ⟨he, by rw [L]; exact X⟩
    have KD : Hid (Chg (fun _ => False) w11 w11.drew) := (Ext.refl w11).drew.chg _
    clear R0 R1 D HN fr wf0 wfn wfn1 wfm
    generalize strB (content c) = sv0 at *
    try generalize strB zeroBlk = sv2 at *
    go_upto_region 14 with fail
    refine wp_region_held_drew (S := fun W => Chg (fun _ => False) w11 W) (by kernel_rfl) KD.out (fun hHeld => ?_)
    refine wpAnyH_take (i := 0) (oi := _) (v := ?vfz0) rfl (by kernel_rfl) (by kernel_rfl) (by kernel_rfl) (fun _ _ _ h => h) (Or.inl ⟨by rfl, ?yfz0⟩) (by assumption) ?rfz0
    case yfz0 => (intro w hSw; go_simp; try with_reducible rfl)
    (try simp only [List.getElem_toArray, List.getElem_cons_succ, List.getElem_cons_zero, Act.put, List.setIfInBounds_toArray, List.set_cons_zero, List.set_cons_succ])
    refine wpAnyH_take (i := 1) (oi := _) (v := ?vfz1) rfl (by kernel_rfl) (by kernel_rfl) (by kernel_rfl) (fun _ _ _ h => h) (Or.inl ⟨by rfl, ?yfz1⟩) (by assumption) ?rfz1
    case yfz1 => (intro w hSw; go_simp; try with_reducible rfl)
    (try simp only [List.getElem_toArray, List.getElem_cons_succ, List.getElem_cons_zero, Act.put, List.setIfInBounds_toArray, List.set_cons_zero, List.set_cons_succ])
    refine wpAnyH_take (i := 2) (oi := _) (v := ?vfz2) rfl (by kernel_rfl) (by kernel_rfl) (by kernel_rfl) (fun _ _ _ h => h) (Or.inl ⟨by rfl, ?yfz2⟩) (by assumption) ?rfz2
    case yfz2 => (intro w hSw; go_simp; try with_reducible rfl)
    (try simp only [List.getElem_toArray, List.getElem_cons_succ, List.getElem_cons_zero, Act.put, List.setIfInBounds_toArray, List.set_cons_zero, List.set_cons_succ])
    refine wpAnyH_take (i := 3) (oi := _) (v := ?vfz3) rfl (by kernel_rfl) (by kernel_rfl) (by kernel_rfl) (fun _ _ _ h => h) (Or.inl ⟨by rfl, ?yfz3⟩) (by assumption) ?rfz3
    case yfz3 => (intro w hSw; go_simp; try with_reducible rfl)
    (try simp only [List.getElem_toArray, List.getElem_cons_succ, List.getElem_cons_zero, Act.put, List.setIfInBounds_toArray, List.set_cons_zero, List.set_cons_succ])
    refine wpAnyH_take (i := 4) (oi := _) (v := ?vfz4) rfl (by kernel_rfl) (by kernel_rfl) (by kernel_rfl) (fun _ _ _ h => h) (Or.inl ⟨by rfl, ?yfz4⟩) (by assumption) ?rfz4
    case yfz4 => (intro w hSw; go_simp; try with_reducible rfl)
    (try simp only [List.getElem_toArray, List.getElem_cons_succ, List.getElem_cons_zero, Act.put, List.setIfInBounds_toArray, List.set_cons_zero, List.set_cons_succ])
    refine wpAnyH_ready (rs := [5]) (by kernel_rfl) (by simp) ?_
    refine AllReadyH.cons (o := _) rfl (fun K hK => ?_) AllReadyH.nil
    (try simp only [List.getElem_toArray, List.getElem_cons_succ, List.getElem_cons_zero])
    go_simp
    refine (FA.out _ (by assumption)).mono ?_
    rintro e wA ⟨rfl, cvA, X⟩
    have cvA : (convert 31 9 (.slice (some ⟨w11.heap.size, 0, none⟩) 512 512)).run Try.prog wA = .ok (.string sv0) wA := cvA
    refine hK.out _ _ ?_ (fun hHeld => ?_)
    · exact X
    clear hK K
    (try simp only [List.getElem_toArray, List.getElem_cons_succ, List.getElem_cons_zero, Act.put, List.setIfInBounds_toArray, List.set_cons_zero, List.set_cons_succ])
    refine wpAnyH_ready (rs := [6]) (by kernel_rfl) (by simp) ?_
    refine AllReadyH.cons (o := _) rfl (fun K hK => ?_) AllReadyH.nil
    (try simp only [List.getElem_toArray, List.getElem_cons_succ, List.getElem_cons_zero])
    go_simp
    refine hK.out _ _ ?_ (fun hHeld => ?_)
    · exact X
    clear hK K
    (try simp only [List.getElem_toArray, List.getElem_cons_succ, List.getElem_cons_zero, Act.put, List.setIfInBounds_toArray, List.set_cons_zero, List.set_cons_succ])
    refine wpAnyH_take (i := 7) (oi := _) (v := ?vfz7) rfl (by kernel_rfl) (by kernel_rfl) (by kernel_rfl) (fun _ _ _ h => h) (Or.inl ⟨by rfl, ?yfz7⟩) (by assumption) ?rfz7
    case yfz7 => (intro w hSw; go_simp; try with_reducible rfl)
    (try simp only [List.getElem_toArray, List.getElem_cons_succ, List.getElem_cons_zero, Act.put, List.setIfInBounds_toArray, List.set_cons_zero, List.set_cons_succ])
    refine wpAnyH_take (i := 8) (oi := _) (v := ?vfz8) rfl (by kernel_rfl) (by kernel_rfl) (by kernel_rfl) (fun _ _ _ h => h) (Or.inl ⟨by rfl, ?yfz8⟩) (by assumption) ?rfz8
    case yfz8 => (intro w hSw; go_simp; try with_reducible rfl)
    (try simp only [List.getElem_toArray, List.getElem_cons_succ, List.getElem_cons_zero, Act.put, List.setIfInBounds_toArray, List.set_cons_zero, List.set_cons_succ])
    refine wpAnyH_take (i := 9) (oi := _) (v := ?vfz9) rfl (by kernel_rfl) (by kernel_rfl) (by kernel_rfl) (fun _ _ _ h => h) (Or.inl ⟨by rfl, ?yfz9⟩) (by assumption) ?rfz9
    case yfz9 => (intro w hSw; go_simp; try with_reducible rfl)
    (try simp only [List.getElem_toArray, List.getElem_cons_succ, List.getElem_cons_zero, Act.put, List.setIfInBounds_toArray, List.set_cons_zero, List.set_cons_succ])
    refine wpAnyH_take (i := 10) (oi := _) (v := ?vfz10) rfl (by kernel_rfl) (by kernel_rfl) (by kernel_rfl) (fun _ _ _ h => h) (Or.inl ⟨by rfl, ?yfz10⟩) (by assumption) ?rfz10
    case yfz10 => (intro w hSw; go_simp; try with_reducible rfl)
    (try simp only [List.getElem_toArray, List.getElem_cons_succ, List.getElem_cons_zero, Act.put, List.setIfInBounds_toArray, List.set_cons_zero, List.set_cons_succ])
    refine wpAnyH_take (i := 11) (oi := _) (v := ?vfz11) rfl (by kernel_rfl) (by kernel_rfl) (by kernel_rfl) (fun _ _ _ h => h) (Or.inl ⟨by rfl, ?yfz11⟩) (by assumption) ?rfz11
    case yfz11 => (intro w hSw; go_simp; try with_reducible rfl)
    (try simp only [List.getElem_toArray, List.getElem_cons_succ, List.getElem_cons_zero, Act.put, List.setIfInBounds_toArray, List.set_cons_zero, List.set_cons_succ])
    refine wpAnyH_take (i := 12) (oi := _) (v := ?vfz12) rfl (by kernel_rfl) (by kernel_rfl) (by kernel_rfl) (fun _ _ _ h => h) (Or.inl ⟨by rfl, ?yfz12⟩) (by assumption) ?rfz12
    case yfz12 => (intro w hSw; go_simp; try with_reducible rfl)
    (try simp only [List.getElem_toArray, List.getElem_cons_succ, List.getElem_cons_zero, Act.put, List.setIfInBounds_toArray, List.set_cons_zero, List.set_cons_succ])
    refine wpAnyH_take (i := 13) (oi := _) (v := ?vfz13) rfl (by kernel_rfl) (by kernel_rfl) (by kernel_rfl) (fun _ _ _ h => h) (Or.inl ⟨by rfl, ?yfz13⟩) (by assumption) ?rfz13
    case yfz13 => (intro w hSw; go_simp; try with_reducible rfl)
    (try simp only [List.getElem_toArray, List.getElem_cons_succ, List.getElem_cons_zero, Act.put, List.setIfInBounds_toArray, List.set_cons_zero, List.set_cons_succ])
    refine wpAnyH_take (i := 14) (oi := _) (v := ?vfz14) rfl (by kernel_rfl) (by kernel_rfl) (by kernel_rfl) (fun _ _ _ h => h) (Or.inl ⟨by rfl, ?yfz14⟩) (by assumption) ?rfz14
    case yfz14 => (intro w hSw; go_simp; try with_reducible rfl)
    (try simp only [List.getElem_toArray, List.getElem_cons_succ, List.getElem_cons_zero, Act.put, List.setIfInBounds_toArray, List.set_cons_zero, List.set_cons_succ])
    refine wpAnyH_take (i := 15) (oi := _) (v := ?vfz15) rfl (by kernel_rfl) (by kernel_rfl) (by kernel_rfl) (fun _ _ _ h => h) (Or.inl ⟨by rfl, ?yfz15⟩) (by assumption) ?rfz15
    case yfz15 => (intro w hSw; go_simp; try with_reducible rfl)
    (try simp only [List.getElem_toArray, List.getElem_cons_succ, List.getElem_cons_zero, Act.put, List.setIfInBounds_toArray, List.set_cons_zero, List.set_cons_succ])
    refine wpAnyH_take (i := 16) (oi := _) (v := ?vfz16) rfl (by kernel_rfl) (by kernel_rfl) (by kernel_rfl) (fun _ _ _ h => h) (Or.inl ⟨by rfl, ?yfz16⟩) (by assumption) ?rfz16
    case yfz16 => (intro w hSw; go_simp; try with_reducible rfl)
    (try simp only [List.getElem_toArray, List.getElem_cons_succ, List.getElem_cons_zero, Act.put, List.setIfInBounds_toArray, List.set_cons_zero, List.set_cons_succ])
    refine wpAnyH_take (i := 17) (oi := _) (v := ?vfz17) rfl (by kernel_rfl) (by kernel_rfl) (by kernel_rfl) (fun _ _ _ h => h) (Or.inl ⟨by rfl, ?yfz17⟩) (by assumption) ?rfz17
    case yfz17 => (intro w hSw; go_simp; try with_reducible rfl)
    (try simp only [List.getElem_toArray, List.getElem_cons_succ, List.getElem_cons_zero, Act.put, List.setIfInBounds_toArray, List.set_cons_zero, List.set_cons_succ])
    refine wpAnyH_take (i := 18) (oi := _) (v := ?vfz18) rfl (by kernel_rfl) (by kernel_rfl) (by kernel_rfl) (fun _ _ _ h => h) (Or.inl ⟨by rfl, ?yfz18⟩) (by assumption) ?rfz18
    case yfz18 => (intro w hSw; go_simp; try with_reducible rfl)
    (try simp only [List.getElem_toArray, List.getElem_cons_succ, List.getElem_cons_zero, Act.put, List.setIfInBounds_toArray, List.set_cons_zero, List.set_cons_succ])
    refine wpAnyH_take (i := 19) (oi := _) (v := ?vfz19) rfl (by kernel_rfl) (by kernel_rfl) (by kernel_rfl) (fun _ _ _ h => h) (Or.inl ⟨by rfl, ?yfz19⟩) (by assumption) ?rfz19
    case yfz19 => (intro w hSw; go_simp; try with_reducible rfl)
    (try simp only [List.getElem_toArray, List.getElem_cons_succ, List.getElem_cons_zero, Act.put, List.setIfInBounds_toArray, List.set_cons_zero, List.set_cons_succ])
    refine wpAnyH_take (i := 20) (oi := _) (v := ?vfz20) rfl (by kernel_rfl) (by kernel_rfl) (by kernel_rfl) (fun _ _ _ h => h) (Or.inl ⟨by rfl, ?yfz20⟩) (by assumption) ?rfz20
    case yfz20 => (intro w hSw; go_simp; try with_reducible rfl)
    (try simp only [List.getElem_toArray, List.getElem_cons_succ, List.getElem_cons_zero, Act.put, List.setIfInBounds_toArray, List.set_cons_zero, List.set_cons_succ])
    refine wpAnyH_take (i := 21) (oi := _) (v := ?vfz21) rfl (by kernel_rfl) (by kernel_rfl) (by kernel_rfl) (fun _ _ _ h => h) (Or.inl ⟨by rfl, ?yfz21⟩) (by assumption) ?rfz21
    case yfz21 => (intro w hSw; go_simp; try with_reducible rfl)
    (try simp only [List.getElem_toArray, List.getElem_cons_succ, List.getElem_cons_zero, Act.put, List.setIfInBounds_toArray, List.set_cons_zero, List.set_cons_succ])
    refine wpAnyH_take (i := 22) (oi := _) (v := ?vfz22) rfl (by kernel_rfl) (by kernel_rfl) (by kernel_rfl) (fun _ _ _ h => h) (Or.inl ⟨by rfl, ?yfz22⟩) (by assumption) ?rfz22
    case yfz22 => (intro w hSw; go_simp; try with_reducible rfl)
    (try simp only [List.getElem_toArray, List.getElem_cons_succ, List.getElem_cons_zero, Act.put, List.setIfInBounds_toArray, List.set_cons_zero, List.set_cons_succ])
    refine wpAnyH_take (i := 23) (oi := _) (v := ?vfz23) rfl (by kernel_rfl) (by kernel_rfl) (by kernel_rfl) (fun _ _ _ h => h) (Or.inl ⟨by rfl, ?yfz23⟩) (by assumption) ?rfz23
    case yfz23 => (intro w hSw; go_simp; try with_reducible rfl)
    (try simp only [List.getElem_toArray, List.getElem_cons_succ, List.getElem_cons_zero, Act.put, List.setIfInBounds_toArray, List.set_cons_zero, List.set_cons_succ])
    refine wpAnyH_take (i := 24) (oi := _) (v := ?vfz24) rfl (by kernel_rfl) (by kernel_rfl) (by kernel_rfl) (fun _ _ _ h => h) (Or.inl ⟨by rfl, ?yfz24⟩) (by assumption) ?rfz24
    case yfz24 => (intro w hSw; go_simp; try with_reducible rfl)
    (try simp only [List.getElem_toArray, List.getElem_cons_succ, List.getElem_cons_zero, Act.put, List.setIfInBounds_toArray, List.set_cons_zero, List.set_cons_succ])
    refine wpAnyH_take (i := 25) (oi := _) (v := ?vfz25) rfl (by kernel_rfl) (by kernel_rfl) (by kernel_rfl) (fun _ _ _ h => h) (Or.inl ⟨by rfl, ?yfz25⟩) (by assumption) ?rfz25
    case yfz25 => (intro w hSw; go_simp; try with_reducible rfl)
    (try simp only [List.getElem_toArray, List.getElem_cons_succ, List.getElem_cons_zero, Act.put, List.setIfInBounds_toArray, List.set_cons_zero, List.set_cons_succ])
    refine wpAnyH_take (i := 26) (oi := _) (v := ?vfz26) rfl (by kernel_rfl) (by kernel_rfl) (by kernel_rfl) (fun _ _ _ h => h) (Or.inl ⟨by rfl, ?yfz26⟩) (by assumption) ?rfz26
    case yfz26 => (intro w hSw; go_simp; try with_reducible rfl)
    (try simp only [List.getElem_toArray, List.getElem_cons_succ, List.getElem_cons_zero, Act.put, List.setIfInBounds_toArray, List.set_cons_zero, List.set_cons_succ])
    refine wpAnyH_take (i := 27) (oi := _) (v := ?vfz27) rfl (by kernel_rfl) (by kernel_rfl) (by kernel_rfl) (fun _ _ _ h => h) (Or.inl ⟨by rfl, ?yfz27⟩) (by assumption) ?rfz27
    case yfz27 => (intro w hSw; go_simp; try with_reducible rfl)
    (try simp only [List.getElem_toArray, List.getElem_cons_succ, List.getElem_cons_zero, Act.put, List.setIfInBounds_toArray, List.set_cons_zero, List.set_cons_succ])
    refine wpAnyH_take (i := 28) (oi := _) (v := ?vfz28) rfl (by kernel_rfl) (by kernel_rfl) (by kernel_rfl) (fun _ _ _ h => h) (Or.inl ⟨by rfl, ?yfz28⟩) (by assumption) ?rfz28
    case yfz28 => (intro w hSw; go_simp; try with_reducible rfl)
    (try simp only [List.getElem_toArray, List.getElem_cons_succ, List.getElem_cons_zero, Act.put, List.setIfInBounds_toArray, List.set_cons_zero, List.set_cons_succ])
    refine wpAnyH_ready (rs := [29]) (by kernel_rfl) (by simp) ?_
    refine AllReadyH.cons (o := _) rfl (fun K hK => ?_) AllReadyH.nil
    (try simp only [List.getElem_toArray, List.getElem_cons_succ, List.getElem_cons_zero])
    go_simp
    refine (FC.out _ (by assumption)).mono ?_
    clear X
    rintro e wC ⟨rfl, X⟩
    refine hK.out _ _ ?_ (fun hHeld => ?_)
    · exact X
    clear hK K
    (try simp only [List.getElem_toArray, List.getElem_cons_succ, List.getElem_cons_zero, Act.put, List.setIfInBounds_toArray, List.set_cons_zero, List.set_cons_succ])
    refine wpAnyH_take (i := 30) (oi := _) (v := ?vfz30) rfl (by kernel_rfl) (by kernel_rfl) (by kernel_rfl) (fun _ _ _ h => h) (Or.inl ⟨by rfl, ?yfz30⟩) (by assumption) ?rfz30
    case yfz30 => (intro w hSw; go_simp; try with_reducible rfl)
    (try simp only [List.getElem_toArray, List.getElem_cons_succ, List.getElem_cons_zero, Act.put, List.setIfInBounds_toArray, List.set_cons_zero, List.set_cons_succ])
    refine wpAnyH_take (i := 31) (oi := _) (v := ?vfz31) rfl (by kernel_rfl) (by kernel_rfl) (by kernel_rfl) (fun _ _ _ h => h) (Or.inl ⟨by rfl, ?yfz31⟩) (by assumption) ?rfz31
    case yfz31 => (intro w hSw; go_simp; try with_reducible rfl)
    (try simp only [List.getElem_toArray, List.getElem_cons_succ, List.getElem_cons_zero, Act.put, List.setIfInBounds_toArray, List.set_cons_zero, List.set_cons_succ])
    refine wpAnyH_take (i := 32) (oi := _) (v := ?vfz32) rfl (by kernel_rfl) (by kernel_rfl) (by kernel_rfl) (fun _ _ _ h => h) (Or.inl ⟨by rfl, ?yfz32⟩) (by assumption) ?rfz32
    case yfz32 => (intro w hSw; go_simp; try with_reducible rfl)
    (try simp only [List.getElem_toArray, List.getElem_cons_succ, List.getElem_cons_zero, Act.put, List.setIfInBounds_toArray, List.set_cons_zero, List.set_cons_succ])
    refine wpAnyH_done (by kernel_rfl) ?_ _
    go_wp2
    go_ret
    exact ⟨rfl, Y.out.trans X (fun _ _ h => h)⟩
end Go.Proofs.Ytedcpmkfanlicaa
