/- DeviceAgain's walk. -/
import Derived.Test.YtedcpmkfanlicaaDvLaw
import Derived.Deep.RegionHeld3
import Derived.Deep.LoopGhost
import Derived.Deep.CutBlock
import Derived.Deep.DeepCutAuto
set_option linter.unusedVariables false
set_option linter.unusedSimpArgs false
namespace Go.Proofs.Ytedcpmkfanlicaa
open Go Go.RowKit Go.Sort Go.Lib Go.Maps Go.Deep
set_option maxHeartbeats 4000000 in
set_option maxRecDepth 100000 in
theorem deviceAgain_any (w : World) (a : Option Addr) (cap : Nat) (l : List OpV) (mask other torn : Int) (HL : OpsIn w a l) (hm : u64 mask) (ho : u64 other) (ht : wfK torn) :
    Calls Try.prog 3 #[.slice a l.length cap, .int .u64 mask, .int .u64 other, .int .i64 torn] w fun e w' => e = .returned (.bool true) ∧ Chg (fun _ => False) w w' := by
  have mixed := Try.mixed
  have S0 := Lib.hid (shown_any w)
  have hsm : l.length ≤ 9223372036854775807 := HL.small
  have HL := Lib.hid HL
  have HM := Lib.hid hm
  have HO := Lib.hid ho
  clear hm ho ht
  generalize hn : l.length = n at hsm ⊢
  have HN := Lib.hid hn
  clear hn
  go_enter Try.func3, Try.ntmps3
  go_wp2_with fail
  refine S0.out.mono ?_
  rintro e w0 ⟨rfl, Y0⟩
  have Y : Hid (Chg (fun _ => False) w w0) := Y0
  clear Y0 S0
  have q := Lib.hid (new_st 8 w0)
  go_wp2_with fail
  refine q.out.mono ?_
  rintro e w1 ⟨rfl, DD, X⟩
  obtain ⟨La, hL⟩ : ∃ L : Loc, L = ⟨w0.heap.size + 2, w0.heap.size, w0.heap.size + 1⟩ := ⟨_, rfl⟩
  have eL : w0.heap.size + 2 = La.p := by rw [hL]
  have fka : Hid (∀ i, Foot La i → w0.heap.size ≤ i) := by rw [hL]; rintro i (rfl | rfl | rfl) <;> (simp only; omega)
  have fra : Hid (∀ i, Foot La i → w.heap.size ≤ i) := fun i h => by have := Y.out.size; have := fka.out i h; omega
  have Da : Hid (DvIs w1 La (newS 8) 0) := by rw [hL]; exact DD
  have Y : Hid (Chg (fun _ => False) w w1) := Y.out.trans X (fun i hi h => h.elim)
  rw [eL]
  clear q X DD hL eL fka
  go_upto_block 0 with fail
  go_cut [11] (fun s11 wx => ∃ s : St, Aside (DvIs wx La s 30) ∧ Aside (Rdy s) ∧ Aside (Chg (fun _ => False) w wx))
  case rest =>
    clear Da Y HL HN hsm
    obtain ⟨s, Da, RS, Y⟩ := hcut
    have Da : Hid (DvIs wc La s 30) := Da
    have RS : Hid (Rdy s) := RS
    have Y : Hid (Chg (fun _ => False) w wc) := Y
    obtain ⟨w10, hwc⟩ : ∃ W, W = wc := ⟨_, rfl⟩
    rw [← hwc] at Da Y ⊢
    clear hwc
    have q := start_st Da.out
    rw [startS_up RS.out.up] at q
    have q := Lib.hid q
    go_wp2_with fail
    refine q.out.mono ?_
    rintro e w11 ⟨rfl, DD, X⟩
    have Da : Hid (DvIs w11 La (s) (30)) := DD
    have Y : Hid (Chg (fun _ => False) w w11) := Y.out.trans X (fun i hi h => absurd hi (by have := fra.out i h; omega))
    clear q X DD
    have q := Lib.hid (clone_st Da.out)
    go_wp2_with fail
    refine q.out.mono ?_
    rintro e w12 ⟨Lb, rfl, DD, fkb, X⟩
    have fkb := Lib.hid fkb
    have frb : Hid (∀ i, Foot Lb i → w.heap.size ≤ i) := fun i h => by have := Y.out.size; have := fkb.out i h; omega
    have Db : Hid (DvIs w12 Lb (s) 30) := DD
    have djab : Hid (∀ i, Foot La i → ¬ Foot Lb i) := fun i h h' => by have := fkb.out i h'; have := Da.out.lt i h; omega
    have djba : Hid (∀ i, Foot Lb i → ¬ Foot La i) := fun i h h' => djab.out i h' h
    have Da := Lib.hid (Da.out.chg X (fun _ _ h => h))
    have Y : Hid (Chg (fun _ => False) w w12) := Y.out.trans X (fun i hi h => h.elim)
    clear q X DD fkb
    have q := calls_st Da.out
    have q := Lib.hid q
    go_wp2_with fail
    refine q.out.mono ?_
    rintro e wq ⟨rfl, hw⟩
    have hw := hw.symm
    subst hw
    clear q
    obtain ⟨t, ht⟩ : ∃ t, t = crashS s mask torn 100 := ⟨_, rfl⟩
    have TD : Hid (t.d.down = true) := by rw [ht]; exact crashS_isDown _ _ _ _
    have TC : Hid (t.d.calls = s.d.calls) := by rw [ht]; exact crashS_calls _ _ _ _
    have TN : Hid (t.d.n = 8) := by rw [ht, crashS_n]; exact RS.out.n8
    have q := crash_st Da.out (by omega) mask torn 100 HM.out
    rw [← ht] at q
    have q := Lib.hid q
    go_wp2_with fail
    refine q.out.mono ?_
    rintro e w13 ⟨rfl, DD, X⟩
    have Da : Hid (DvIs w13 La (t) (30)) := DD
    have Db := Lib.hid (Db.out.chg X djba.out)
    have Y : Hid (Chg (fun _ => False) w w13) := Y.out.trans X (fun i hi h => absurd hi (by have := fra.out i h; omega))
    clear q X DD
    have q := crash_st Db.out (by omega) mask torn 100 HM.out
    rw [← ht] at q
    have q := Lib.hid q
    go_wp2_with fail
    refine q.out.mono ?_
    rintro e w14 ⟨rfl, DD, X⟩
    have Db : Hid (DvIs w14 Lb (t) (30)) := DD
    have Da := Lib.hid (Da.out.chg X djab.out)
    have Y : Hid (Chg (fun _ => False) w w14) := Y.out.trans X (fun i hi h => absurd hi (by have := frb.out i h; omega))
    clear q X DD
    clear ht
    have q : Hid (∀ tn, Calls Try.prog 17 #[.pointer (some ⟨La.p, 0, none⟩), .int .u64 other, .int .i64 tn, .int .i64 7] w14 fun e w' => e = .returned (.tuple #[]) ∧ DvIs w' La t 30 ∧ Chg (Foot La) w14 w') := fun tn => by
      have q := crash_st Da.out (by omega) other tn 7 HO.out
      rw [crashS_down TD.out] at q
      exact q
    go_wp2_with fail
    refine (q.out _).mono ?_
    rintro e w15 ⟨rfl, DD, X⟩
    have Da : Hid (DvIs w15 La t 30) := DD
    have Db := Lib.hid (Db.out.chg X djba.out)
    have Y : Hid (Chg (fun _ => False) w w15) := Y.out.trans X (fun i hi h => absurd hi (by have := fra.out i h; omega))
    clear q X DD
    have q := arm_st Da.out 1 other 0 9 (by decide) HO.out
    have q := Lib.hid q
    go_wp2_with fail
    refine q.out.mono ?_
    rintro e w16 ⟨rfl, DD, X⟩
    have Da : Hid (DvIs w16 La (armS t 1 other 0 9) (30)) := DD
    have Db := Lib.hid (Db.out.chg X djba.out)
    have Y : Hid (Chg (fun _ => False) w w16) := Y.out.trans X (fun i hi h => absurd hi (by have := fra.out i h; omega))
    clear q X DD
    have q := flush_st Da.out (by omega)
    rw [flushS_down (s := armS t 1 other 0 9) TD.out] at q
    have q := Lib.hid q
    go_wp2_with fail
    refine q.out.mono ?_
    rintro e w17 ⟨rfl, DD, X⟩
    have Da : Hid (DvIs w17 La (armS t 1 other 0 9) (31)) := DD
    have Db := Lib.hid (Db.out.chg X djba.out)
    have Y : Hid (Chg (fun _ => False) w w17) := Y.out.trans X (fun i hi h => absurd hi (by have := fra.out i h; omega))
    clear q X DD
    have q := Lib.hid (content_st 1 w17)
    go_wp2_with fail
    refine q.out.mono ?_
    rintro e w18 ⟨rfl, LC, X⟩
    have LC := Lib.hid LC
    have gpa : Hid (w17.heap.size ≠ La.p) := fun e => by have := Da.out.lt _ (.inl rfl); omega
    have gpb : Hid (w17.heap.size ≠ Lb.p) := fun e => by have := Db.out.lt _ (.inl rfl); omega
    have Da := Lib.hid (Da.out.chg X (fun _ _ h => h))
    have Db := Lib.hid (Db.out.chg X (fun _ _ h => h))
    have Y : Hid (Chg (fun _ => False) w w18) := Y.out.trans X (fun i hi h => h.elim)
    clear q X
    have q := write_st (cb := 512) (k := 0) Da.out (by omega) (wf_small (by decide) (by decide)) LC.out gpa.out (full_content 1)
    rw [writeS_down (s := armS t 1 other 0 9) TD.out] at q
    have q := Lib.hid q
    go_wp2_with fail
    refine q.out.mono ?_
    rintro e w19 ⟨rfl, DD, X⟩
    have Da : Hid (DvIs w19 La (armS t 1 other 0 9) (32)) := DD
    have Db := Lib.hid (Db.out.chg X djba.out)
    have Y : Hid (Chg (fun _ => False) w w19) := Y.out.trans X (fun i hi h => absurd hi (by have := fra.out i h; omega))
    clear q X DD
    clear LC gpa gpb
    have ec : (armS t 1 other 0 9).d.calls = s.d.calls := TC.out
    have q := calls_st Da.out
    rw [ec] at q
    have q := Lib.hid q
    go_wp2_with fail
    refine q.out.mono ?_
    rintro e wq ⟨rfl, hw⟩
    have hw := hw.symm
    subst hw
    clear q
    clear ec
    have ed : (armS t 1 other 0 9).d.down = true := TD.out
    have q := up_st Da.out
    rw [ed] at q
    have q := Lib.hid q
    go_wp2_with fail
    refine q.out.mono ?_
    rintro e wq ⟨rfl, hw⟩
    have hw := hw.symm
    subst hw
    clear q
    clear ed
    have q := arm_st Da.out 0 0 0 0 (by decide) ⟨by decide, by decide⟩
    have q := Lib.hid q
    go_wp2_with fail
    refine q.out.mono ?_
    rintro e w20 ⟨rfl, DD, X⟩
    have Da : Hid (DvIs w20 La (armS (armS t 1 other 0 9) 0 0 0 0) (32)) := DD
    have Db := Lib.hid (Db.out.chg X djba.out)
    have Y : Hid (Chg (fun _ => False) w w20) := Y.out.trans X (fun i hi h => absurd hi (by have := fra.out i h; omega))
    clear q X DD
    have q := start_st Da.out
    have q := Lib.hid q
    go_wp2_with fail
    refine q.out.mono ?_
    rintro e w21 ⟨rfl, DD, X⟩
    have Da : Hid (DvIs w21 La (startS (armS (armS t 1 other 0 9) 0 0 0 0)) (32)) := DD
    have Db := Lib.hid (Db.out.chg X djba.out)
    have Y : Hid (Chg (fun _ => False) w w21) := Y.out.trans X (fun i hi h => absurd hi (by have := fra.out i h; omega))
    clear q X DD
    have q := start_st Db.out
    have q := Lib.hid q
    go_wp2_with fail
    refine q.out.mono ?_
    rintro e w22 ⟨rfl, DD, X⟩
    have Db : Hid (DvIs w22 Lb (startS t) (30)) := DD
    have Da := Lib.hid (Da.out.chg X djab.out)
    have Y : Hid (Chg (fun _ => False) w w22) := Y.out.trans X (fun i hi h => absurd hi (by have := frb.out i h; omega))
    clear q X DD
    obtain ⟨sa, hsa⟩ : ∃ q, q = startS (armS (armS t 1 other 0 9) 0 0 0 0) := ⟨_, rfl⟩
    obtain ⟨sb, hsb⟩ : ∃ q, q = startS t := ⟨_, rfl⟩
    have MA : Hid (∀ j : Nat, j < 8 → mayS sa j = 0) := fun j hj => mayS_up (by rw [hsa]; rfl) (by rw [hsa]; exact TN.out) j hj
    have MB : Hid (∀ j : Nat, j < 8 → mayS sb j = 0) := fun j hj => mayS_up (by rw [hsb]; rfl) (by rw [hsb]; exact TN.out) j hj
    have NE : Hid (∀ j : Nat, newest sb.G sb.lo j = newest sa.G sa.lo j) := fun j => by rw [hsa, hsb]; rfl
    have FS : Hid (flushS sa = (settleS (callS sa), 0)) := flushS_up (by rw [hsa]; rfl) (by rw [hsa]; exact Int.le_refl _)
    have SC : Hid (sa.d.calls = s.d.calls) := by rw [hsa]; exact TC.out
    have CB : Hid (0 ≤ s.d.calls ∧ s.d.calls ≤ 100) := by have := Da.out.calls; rw [← hsa] at this; rw [← SC.out]; exact ⟨this.1, by omega⟩
    rw [← hsa] at Da
    rw [← hsb] at Db
    clear hsa hsb TD TC TN HM HO RS
    generalize s.d.calls = cz at SC CB ⊢
    go_wp2
    go_loopg [14] 8 (fun kx s14 wr => ∃ j : Nat, s14 = .int .i64 j ∧ j ≤ 8 ∧ 8 - j ≤ kx ∧ Aside (DvIs wr La sa 32) ∧ Aside (DvIs wr Lb sb 32) ∧ Aside (Chg (fun _ => False) w wr))
    case atStart => exact ⟨0, rfl, by omega, by omega, Da.out, Db.out.mono (by omega), Y.out⟩
    case round =>
      clear Da Db Y
      obtain ⟨j, rfl, hj, hg, Da, Db, Y⟩ := hrel
      have Da : Hid (DvIs wr La sa 32) := Da
      have Db : Hid (DvIs wr Lb sb 32) := Db
      have Y : Hid (Chg (fun _ => False) w wr) := Y
      obtain ⟨w40, hwc⟩ : ∃ W, W = wr := ⟨_, rfl⟩
      rw [← hwc] at Da Db Y ⊢
      clear hwc
      by_cases hlt : j < 8
      · have z1 : (j : Int) < 8 := by omega
        have q := Lib.hid (read_st Da.out (wf_nat (by omega)) (MA.out j hlt))
        go_wp2_with fail
        refine q.out.mono ?_
        rintro e w41 ⟨rfl, B, X⟩
        have R0 : CellsAt w41 w40.heap.size 0 (blkCells (newest sa.G sa.lo j)) := cellsAt_blk B
        have R0 := Lib.hid R0
        have Da := Lib.hid (Da.out.chg X (fun _ _ h => h))
        have Db := Lib.hid (Db.out.chg X (fun _ _ h => h))
        have Y : Hid (Chg (fun _ => False) w w41) := Y.out.trans X (fun i hi h => h.elim)
        clear q X B
        have q := Lib.hid (read_st Db.out (wf_nat (by omega)) (MB.out j hlt))
        go_wp2_with fail
        refine q.out.mono ?_
        rintro e w42 ⟨rfl, B, X⟩
        have R1 : CellsAt w42 w41.heap.size 0 (blkCells (newest sb.G sb.lo j)) := cellsAt_blk B
        rw [NE.out j] at R1
        have R1 := Lib.hid R1
        have Da := Lib.hid (Da.out.chg X (fun _ _ h => h))
        have Db := Lib.hid (Db.out.chg X (fun _ _ h => h))
        have R0 := Lib.hid (X.cells R0.out id)
        have Y : Hid (Chg (fun _ => False) w w42) := Y.out.trans X (fun i hi h => h.elim)
        clear q X B
        have fu : Hid (Full (newest sa.G sa.lo j)) := Da.out.fullN j
        have cv0 : (convert 31 9 (.slice (some ⟨w40.heap.size, 0, none⟩) 512 512)).run Try.prog w42 = .ok (.string (strB (newest sa.G sa.lo j))) w42 := conv_blk _ fu.out.1 _ _ 0 512 R0.out
        have cv1 : (convert 31 9 (.slice (some ⟨w41.heap.size, 0, none⟩) 512 512)).run Try.prog w42 = .ok (.string (strB (newest sa.G sa.lo j))) w42 := conv_blk _ fu.out.1 _ _ 0 512 R1.out
        clear R0 R1 fu
        generalize strB (newest sa.G sa.lo j) = sv at cv0 cv1
        go_wp2
        go_roundg (8 - (j + 1))
        case measure => omega
        case rel => exact ⟨j + 1, by go_num, by omega, Nat.le_refl _, Da.out, Db.out, Y.out⟩
      · have z1 : ¬ (j : Int) < 8 := by omega
        have q := flush_st Da.out (by omega)
        rw [FS.out] at q
        have q := Lib.hid q
        go_wp2_with fail
        refine q.out.mono ?_
        rintro e w41 ⟨rfl, DD, X⟩
        have Da : Hid (DvIs w41 La (settleS (callS sa)) (33)) := DD
        have Db := Lib.hid (Db.out.chg X djba.out)
        have Y : Hid (Chg (fun _ => False) w w41) := Y.out.trans X (fun i hi h => absurd hi (by have := fra.out i h; omega))
        clear q X DD
        have ec : (settleS (callS sa)).d.calls = cz + 1 := by show sa.d.calls + 1 = _; rw [SC.out]
        have q := calls_st Da.out
        rw [ec] at q
        have q := Lib.hid q
        go_wp2_with fail
        refine q.out.mono ?_
        rintro e wq ⟨rfl, hw⟩
        have hw := hw.symm
        subst hw
        clear q
        have ew : IntKind.i64.wrap (cz + 1) = cz + 1 := by have := CB.out; exact wrap_in _ _ (by omega) (by omega) rfl
        clear ec
        go_wp2
        go_ret
        exact ⟨rfl, Y.out⟩
  go_wp2
  go_loopg [11] 30 (fun kx s11 wr => ∃ (j : Nat) (s : St), s11 = .int .i64 j ∧ j ≤ n ∧ j ≤ 30 ∧ 30 - j ≤ kx ∧ Aside (DvIs wr La s j) ∧ Aside (Rdy s) ∧ Aside (Chg (fun _ => False) w wr))
  case atStart => exact ⟨0, _, rfl, Nat.zero_le _, Nat.zero_le _, by omega, Da.out, rdy_new, Y.out⟩
  case round =>
    clear Da Y
    obtain ⟨j, s, rfl, hjn, hj30, hg, Da, RS, Y⟩ := hrel
    have Da : Hid (DvIs wr La s j) := Da
    have RS : Hid (Rdy s) := RS
    have Y : Hid (Chg (fun _ => False) w wr) := Y
    by_cases hlt : j < n
    · by_cases hl3 : j < 30
      · have hjl : j < l.length := by have := HN.out; omega
        obtain ⟨b, o, rfl, hb, C⟩ := HL.out.get j hjl
        obtain ⟨op, hop⟩ : ∃ x, x = l[j] := ⟨_, rfl⟩
        rw [← hop] at C
        have fb : Hid (¬ Foot La b) := fun h => by have := fra.out b h; omega
        have CC : Hid (CellsAt wr b (o + j * 7) (opCells op)) := Y.out.cells C id
        have b7 := bits7 op.n
        clear C hb hop
        have z1 : (j : Int) < (n : Int) := by omega
        have z0 : (0 : Int) ≤ (j : Int) := by omega
        have r1 : ∀ W, Chg (Foot La) wr W → W.cell? ⟨b, o + j * 7 + 1, none⟩ = some (.int .i64 op.n) := fun W X => X.cell (CC.out 1 _ rfl) fb.out
        have r2 : ∀ W, Chg (Foot La) wr W → W.cell? ⟨b, o + j * 7 + 2, none⟩ = some (.int .i64 op.c) := fun W X => X.cell (CC.out 2 _ rfl) fb.out
        have KD : Hid (Chg (Foot La) wr wr.drew) := (Ext.refl wr).drew.chg _
        go_upto_region 8 with fail
        refine wp_region_held_drew (S := fun W => Chg (Foot La) wr W) (by kernel_rfl) KD.out (fun hHeld => ?_)
        refine wpAnyH_take (i := 0) (oi := _) (v := ?vag0) rfl (by kernel_rfl) (by kernel_rfl) (by kernel_rfl) (fun _ _ _ h => h) (Or.inl ⟨by rfl, ?yag0⟩) (by assumption) ?rag0
        case yag0 => (intro w hSw; go_simp; try with_reducible rfl)
        (try simp only [List.getElem_toArray, List.getElem_cons_succ, List.getElem_cons_zero, Act.put, List.setIfInBounds_toArray, List.set_cons_zero, List.set_cons_succ])
        refine wpAnyH_take (i := 1) (oi := _) (v := ?vag1) rfl (by kernel_rfl) (by kernel_rfl) (by kernel_rfl) (fun _ _ _ h => h) (Or.inl ⟨by rfl, ?yag1⟩) (by assumption) ?rag1
        case yag1 => (intro w hSw; go_simp; try with_reducible rfl)
        (try simp only [List.getElem_toArray, List.getElem_cons_succ, List.getElem_cons_zero, Act.put, List.setIfInBounds_toArray, List.set_cons_zero, List.set_cons_succ])
        refine wpAnyH_take (i := 2) (oi := _) (v := ?vag2) rfl (by kernel_rfl) (by kernel_rfl) (by kernel_rfl) (fun _ _ _ h => h) (Or.inl ⟨by rfl, ?yag2⟩) (by assumption) ?rag2
        case yag2 => (intro w hSw; go_simp; try with_reducible rfl)
        (try simp only [List.getElem_toArray, List.getElem_cons_succ, List.getElem_cons_zero, Act.put, List.setIfInBounds_toArray, List.set_cons_zero, List.set_cons_succ])
        refine wpAnyH_take (i := 3) (oi := _) (v := ?vag3) rfl (by kernel_rfl) (by kernel_rfl) (by kernel_rfl) (fun _ _ _ h => h) (Or.inl ⟨by rfl, ?yag3⟩) (by assumption) ?rag3
        case yag3 => (intro w hSw; go_simp; try with_reducible rfl)
        (try simp only [List.getElem_toArray, List.getElem_cons_succ, List.getElem_cons_zero, Act.put, List.setIfInBounds_toArray, List.set_cons_zero, List.set_cons_succ])
        refine wpAnyH_take (i := 4) (oi := _) (v := ?vag4) rfl (by kernel_rfl) (by kernel_rfl) (by kernel_rfl) (fun _ _ _ h => h) (Or.inl ⟨by rfl, ?yag4⟩) (by assumption) ?rag4
        case yag4 => (intro w hSw; go_simp; try with_reducible rfl)
        (try simp only [List.getElem_toArray, List.getElem_cons_succ, List.getElem_cons_zero, Act.put, List.setIfInBounds_toArray, List.set_cons_zero, List.set_cons_succ])
        refine wpAnyH_take (i := 5) (oi := _) (v := ?vag5) rfl (by kernel_rfl) (by kernel_rfl) (by kernel_rfl) (fun _ _ _ h => h) (Or.inl ⟨by rfl, ?yag5⟩) (by assumption) ?rag5
        case yag5 => (intro w hSw; go_simp; try with_reducible rfl)
        (try simp only [List.getElem_toArray, List.getElem_cons_succ, List.getElem_cons_zero, Act.put, List.setIfInBounds_toArray, List.set_cons_zero, List.set_cons_succ])
        refine wpAnyH_take (i := 6) (oi := _) (v := ?vag6) rfl (by kernel_rfl) (by kernel_rfl) (by kernel_rfl) (fun _ _ _ h => h) (Or.inl ⟨by rfl, ?yag6⟩) (by assumption) ?rag6
        case yag6 => (intro w hSw; go_simp; try with_reducible rfl)
        (try simp only [List.getElem_toArray, List.getElem_cons_succ, List.getElem_cons_zero, Act.put, List.setIfInBounds_toArray, List.set_cons_zero, List.set_cons_succ])
        refine wpAnyH_take (i := 7) (oi := _) (v := ?vag7) rfl (by kernel_rfl) (by kernel_rfl) (by kernel_rfl) (fun _ _ _ h => h) (Or.inl ⟨by rfl, ?yag7⟩) (by assumption) ?rag7
        case yag7 => (intro w hSw; go_simp; try with_reducible rfl)
        (try simp only [List.getElem_toArray, List.getElem_cons_succ, List.getElem_cons_zero, Act.put, List.setIfInBounds_toArray, List.set_cons_zero, List.set_cons_succ])
        refine wpAnyH_take (i := 8) (oi := _) (v := ?vag8) rfl (by kernel_rfl) (by kernel_rfl) (by kernel_rfl) (fun _ _ _ h => h) (Or.inl ⟨by rfl, ?yag8⟩) (by assumption) ?rag8
        case yag8 => (intro w hSw; go_simp; try with_reducible rfl)
        (try simp only [List.getElem_toArray, List.getElem_cons_succ, List.getElem_cons_zero, Act.put, List.setIfInBounds_toArray, List.set_cons_zero, List.set_cons_succ])
        refine wpAnyH_take (i := 9) (oi := _) (v := ?vag9) rfl (by kernel_rfl) (by kernel_rfl) (by kernel_rfl) (fun _ _ _ h => h) (Or.inl ⟨by rfl, ?yag9⟩) (by assumption) ?rag9
        case yag9 => (intro w hSw; go_simp; try with_reducible rfl)
        (try simp only [List.getElem_toArray, List.getElem_cons_succ, List.getElem_cons_zero, Act.put, List.setIfInBounds_toArray, List.set_cons_zero, List.set_cons_succ])
        refine wpAnyH_take (i := 10) (oi := _) (v := ?vag10) rfl (by kernel_rfl) (by kernel_rfl) (by kernel_rfl) (fun _ _ _ h => h) (Or.inl ⟨by rfl, ?yag10⟩) (by assumption) ?rag10
        case yag10 => (intro w hSw; go_simp; try with_reducible rfl)
        (try simp only [List.getElem_toArray, List.getElem_cons_succ, List.getElem_cons_zero, Act.put, List.setIfInBounds_toArray, List.set_cons_zero, List.set_cons_succ])
        refine wpAnyH_take (i := 11) (oi := _) (v := ?vag11) rfl (by kernel_rfl) (by kernel_rfl) (by kernel_rfl) (fun _ _ _ h => h) (Or.inl ⟨by rfl, ?yag11⟩) (by assumption) ?rag11
        case yag11 => (intro w hSw; go_simp; try with_reducible rfl)
        (try simp only [List.getElem_toArray, List.getElem_cons_succ, List.getElem_cons_zero, Act.put, List.setIfInBounds_toArray, List.set_cons_zero, List.set_cons_succ])
        refine wpAnyH_ready (rs := [12]) (by kernel_rfl) (by simp) ?_
        refine AllReadyH.cons (o := _) rfl (fun K hK => ?_) AllReadyH.nil
        (try simp only [List.getElem_toArray, List.getElem_cons_succ, List.getElem_cons_zero])
        go_simp
        refine (content_st (op.c) _).mono ?_
        rintro e wA ⟨rfl, LC, XA⟩
        have XA : Hid (Chg (fun _ => False) wr wA) := ((Ext.refl wr).drew.chg _).trans XA (fun _ _ h => h)
        have LC := Lib.hid LC
        have gp : Hid (wr.drew.heap.size ≠ La.p) := fun e => by have := Da.out.lt _ (.inl rfl); simp at e; omega
        refine hK.out _ _ ?_ (fun hHeld => ?_)
        · exact XA.out.mono (fun _ _ h => h.elim)
        clear hK K
        (try simp only [List.getElem_toArray, List.getElem_cons_succ, List.getElem_cons_zero, Act.put, List.setIfInBounds_toArray, List.set_cons_zero, List.set_cons_succ])
        refine wpAnyH_ready (rs := [13]) (by kernel_rfl) (by simp) ?_
        refine AllReadyH.cons (o := _) rfl (fun K hK => ?_) AllReadyH.nil
        (try simp only [List.getElem_toArray, List.getElem_cons_succ, List.getElem_cons_zero])
        go_simp
        have qw := write_st (cb := 512) (k := op.n % 8) (Da.out.ext XA.out) (by omega) (wf_mod8 _) LC.out gp.out (full_content (op.c))
        refine qw.mono ?_
        clear qw
        rintro e wB ⟨rfl, DB, XB⟩
        have XB : Hid (Chg (Foot La) wr wB) := (XA.out.mono (fun _ _ h => h.elim)).trans XB (fun _ _ h => h)
        have DB : Hid (DvIs wB La (writeS (s) (op.n % 8) (content (op.c))).1 (j + 1)) := DB
        refine hK.out _ _ ?_ (fun hHeld => ?_)
        · exact XB.out
        clear hK K
        (try simp only [List.getElem_toArray, List.getElem_cons_succ, List.getElem_cons_zero, Act.put, List.setIfInBounds_toArray, List.set_cons_zero, List.set_cons_succ])
        refine wpAnyH_done (by kernel_rfl) ?_ _
        have WS : Hid (Rdy (writeS s (op.n % 8) (content op.c)).1) := (RS.out.write (by omega) (by omega) _).2
        clear r1 r2 CC
        go_wp2
        go_roundg (30 - (j + 1))
        case measure => omega
        case rel => exact ⟨j + 1, _, by go_num, by omega, by omega, Nat.le_refl _, DB.out, WS.out, Y.out.trans XB.out (fun i hi h => absurd hi (by have := fra.out i h; omega))⟩
      · have hd : decide ((j : Int) < 30) = false := by simp; omega
        go_wp2_with fail
        go_meet
        exact ⟨s, Da.out.mono (by omega), RS.out, Y.out⟩
    · go_wp2_with fail
      go_meet
      exact ⟨s, Da.out.mono (by omega), RS.out, Y.out⟩
end Go.Proofs.Ytedcpmkfanlicaa
