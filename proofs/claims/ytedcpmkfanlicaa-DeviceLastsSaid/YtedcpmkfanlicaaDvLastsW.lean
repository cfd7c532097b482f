/- DeviceLasts's walk. -/
import Derived.Test.YtedcpmkfanlicaaDvLast
import Derived.Deep.RegionHeld3
import Derived.Deep.LoopGhost
import Derived.Deep.CutBlock
import Derived.Deep.DeepCutAuto
set_option linter.unusedVariables false
set_option linter.unusedSimpArgs false
namespace Go.Proofs.Ytedcpmkfanlicaa
open Go Go.RowKit Go.Sort Go.Lib Go.Maps Go.Deep
set_option maxHeartbeats 4000000 in
set_option maxRecDepth 100000 in
theorem deviceLasts_any (w : World) (a : Option Addr) (cap : Nat) (l : List OpV) (wh c : Int) (HL : OpsIn w a l) (hwh : wfK wh) (hc : wfK c) :
    Calls Try.prog 7 #[.slice a l.length cap, .int .i64 wh, .int .i64 c] w fun e w' => e = .returned (.bool true) ∧ Chg (fun _ => False) w w' := by
  have mixed := Try.mixed
  have S0 := Lib.hid (shown_any w)
  have hsm : l.length ≤ 9223372036854775807 := HL.small
  have HL := Lib.hid HL
  clear hwh hc
  generalize hn : l.length = n at hsm ⊢
  have HN := Lib.hid hn
  clear hn
  obtain ⟨u, hu⟩ : ∃ u, wh % 8 = u := ⟨_, rfl⟩
  have u0 : 0 ≤ u := by omega
  have u8 : u < 8 := by omega
  have wu : Hid (wfK u) := wf_small (by omega) (by omega)
  have b7 := bits7 wh
  rw [hu] at b7
  clear hu
  go_enter Try.func7, Try.ntmps7
  go_wp2_with fail
  refine S0.out.mono ?_
  rintro e w0 ⟨rfl, Y0⟩
  have Y : Hid (Chg (fun _ => False) w w0) := Y0
  clear Y0 S0
  have q := Lib.hid (new_st 8 w0)
  go_wp2_with fail
  refine q.out.mono ?_
  rintro e w1 ⟨rfl, DD, X⟩
  obtain ⟨La, hL⟩ : ∃ L : Loc, L = ⟨w0.heap.size + 2, w0.heap.size, w0.heap.size + 1⟩ := ⟨_, rfl⟩
  have eL : w0.heap.size + 2 = La.p := by rw [hL]
  have fka : Hid (∀ i, Foot La i → w0.heap.size ≤ i) := by rw [hL]; rintro i (rfl | rfl | rfl) <;> (simp only; omega)
  have fra : Hid (∀ i, Foot La i → w.heap.size ≤ i) := fun i h => by have := Y.out.size; have := fka.out i h; omega
  have Da : Hid (DvIs w1 La (newS 8) 0) := by rw [hL]; exact DD
  have Y : Hid (Chg (fun _ => False) w w1) := Y.out.trans X (fun i hi h => h.elim)
  rw [eL]
  clear q X DD hL eL fka
  have q := Lib.hid (content_st c w1)
  go_wp2_with fail
  refine q.out.mono ?_
  rintro e w2 ⟨rfl, LC, X⟩
  have LC := Lib.hid LC
  have gpa : Hid (w1.heap.size ≠ La.p) := fun e => by have := Da.out.lt _ (.inl rfl); omega
  have Da := Lib.hid (Da.out.chg X (fun _ _ h => h))
  have Y : Hid (Chg (fun _ => False) w w2) := Y.out.trans X (fun i hi h => h.elim)
  clear q X
  have q := write_st (cb := 512) Da.out (by decide) wu.out LC.out gpa.out (full_content c)
  rw [writeS_up (s := newS 8) (k := u) rfl (Int.le_refl _) u0 (by show u < 8; exact u8)] at q
  have q := Lib.hid q
  go_wp2_with fail
  refine q.out.mono ?_
  rintro e w3 ⟨rfl, DD, X⟩
  have Da : Hid (DvIs w3 La (putS (callS (newS 8)) u (content c)) (1)) := DD
  have Y : Hid (Chg (fun _ => False) w w3) := Y.out.trans X (fun i hi h => absurd hi (by have := fra.out i h; omega))
  clear q X DD
  clear LC gpa
  have q := flush_st Da.out (by decide)
  rw [flushS_up (s := putS (callS (newS 8)) u (content c)) rfl (Int.le_refl _)] at q
  have q := Lib.hid q
  go_wp2_with fail
  refine q.out.mono ?_
  rintro e w4 ⟨rfl, DD, X⟩
  have Da : Hid (DvIs w4 La (settleS (callS (putS (callS (newS 8)) u (content c)))) (2)) := DD
  have Y : Hid (Chg (fun _ => False) w w4) := Y.out.trans X (fun i hi h => absurd hi (by have := fra.out i h; omega))
  clear q X DD
  have PP : Hid (LastP (settleS (callS (putS (callS (newS 8)) u (content c)))) u (content c)) := lastP_first u (content c)
  generalize settleS (callS (putS (callS (newS 8)) u (content c))) = s0 at Da PP
  clear b7
  go_upto_block 0 with fail
  go_cut [9] (fun s9 wx => ∃ s : St, Aside (DvIs wx La s 82) ∧ Aside (LastP s u (content c)) ∧ Aside (Chg (fun _ => False) w wx))
  case rest =>
    clear Da Y HL HN hsm PP
    obtain ⟨s, Da, PP, Y⟩ := hcut
    have Da : Hid (DvIs wc La s 82) := Da
    have PP : Hid (LastP s u (content c)) := PP
    have Y : Hid (Chg (fun _ => False) w wc) := Y
    obtain ⟨w60, hwc⟩ : ∃ W, W = wc := ⟨_, rfl⟩
    rw [← hwc] at Da Y ⊢
    clear hwc
    have q := start_st Da.out
    have q := Lib.hid q
    go_wp2_with fail
    refine q.out.mono ?_
    rintro e w61 ⟨rfl, DD, X⟩
    have Da : Hid (DvIs w61 La (startS s) (82)) := DD
    have Y : Hid (Chg (fun _ => False) w w61) := Y.out.trans X (fun i hi h => absurd hi (by have := fra.out i h; omega))
    clear q X DD
    have PP : Hid (LastP (startS s) u (content c)) := PP.out.start
    have q := Lib.hid (read_st Da.out wu.out (PP.out.may rfl u0 u8))
    go_wp2_with fail
    refine q.out.mono ?_
    rintro e w62 ⟨rfl, B, X⟩
    have R0 : CellsAt w62 w61.heap.size 0 (blkCells (newest (startS s).G (startS s).lo u)) := cellsAt_blk B
    rw [PP.out.newest] at R0
    have R0 := Lib.hid R0
    have Da := Lib.hid (Da.out.chg X (fun _ _ h => h))
    have Y : Hid (Chg (fun _ => False) w w62) := Y.out.trans X (fun i hi h => h.elim)
    clear q X B
    have cv0 : ∀ W, Chg (fun _ => False) w62 W → (convert 31 9 (.slice (some ⟨w61.heap.size, 0, none⟩) 512 512)).run Try.prog W = .ok (.string (strB (content c))) W := fun W X => conv_blk _ (full_content c).1 W _ 0 512 (X.cells R0.out id)
    have FA : Hid (∀ W, Chg (fun _ => False) w62 W → Calls Try.prog 13 #[.int .i64 c] W fun e w' => e = .returned (.slice (some ⟨W.heap.size, 0, none⟩) 512 512) ∧ (convert 31 9 (.slice (some ⟨W.heap.size, 0, none⟩) 512 512)).run Try.prog w' = .ok (.string (strB (content c))) w' ∧ Chg (fun _ => False) w62 w') := fun W X =>
      (content_st c W).mono fun e w' ⟨he, LC, X'⟩ => ⟨he, conv_blk _ (full_content c).1 w' _ 0 512 LC, X.trans X' (fun _ _ h => h)⟩
    have KD : Hid (Chg (fun _ => False) w62 w62.drew) := (Ext.refl w62).drew.chg _
    clear R0
    generalize strB (content c) = sv0 at *
    go_upto_region 29 with fail
    refine wp_region_held_drew (S := fun W => Chg (fun _ => False) w62 W) (by kernel_rfl) KD.out (fun hHeld => ?_)
    refine wpAnyH_take (i := 0) (oi := _) (v := ?vlz0) rfl (by kernel_rfl) (by kernel_rfl) (by kernel_rfl) (fun _ _ _ h => h) (Or.inl ⟨by rfl, ?ylz0⟩) (by assumption) ?rlz0
    case ylz0 => (intro w hSw; go_simp; try with_reducible rfl)
    (try simp only [List.getElem_toArray, List.getElem_cons_succ, List.getElem_cons_zero, Act.put, List.setIfInBounds_toArray, List.set_cons_zero, List.set_cons_succ])
    refine wpAnyH_take (i := 1) (oi := _) (v := ?vlz1) rfl (by kernel_rfl) (by kernel_rfl) (by kernel_rfl) (fun _ _ _ h => h) (Or.inl ⟨by rfl, ?ylz1⟩) (by assumption) ?rlz1
    case ylz1 => (intro w hSw; go_simp; try with_reducible rfl)
    (try simp only [List.getElem_toArray, List.getElem_cons_succ, List.getElem_cons_zero, Act.put, List.setIfInBounds_toArray, List.set_cons_zero, List.set_cons_succ])
    refine wpAnyH_take (i := 2) (oi := _) (v := ?vlz2) rfl (by kernel_rfl) (by kernel_rfl) (by kernel_rfl) (fun _ _ _ h => h) (Or.inl ⟨by rfl, ?ylz2⟩) (by assumption) ?rlz2
    case ylz2 => (intro w hSw; go_simp; try with_reducible rfl)
    (try simp only [List.getElem_toArray, List.getElem_cons_succ, List.getElem_cons_zero, Act.put, List.setIfInBounds_toArray, List.set_cons_zero, List.set_cons_succ])
    refine wpAnyH_take (i := 3) (oi := _) (v := ?vlz3) rfl (by kernel_rfl) (by kernel_rfl) (by kernel_rfl) (fun _ _ _ h => h) (Or.inl ⟨by rfl, ?ylz3⟩) (by assumption) ?rlz3
    case ylz3 => (intro w hSw; go_simp; try with_reducible rfl)
    (try simp only [List.getElem_toArray, List.getElem_cons_succ, List.getElem_cons_zero, Act.put, List.setIfInBounds_toArray, List.set_cons_zero, List.set_cons_succ])
    refine wpAnyH_take (i := 4) (oi := _) (v := ?vlz4) rfl (by kernel_rfl) (by kernel_rfl) (by kernel_rfl) (fun _ _ _ h => h) (Or.inl ⟨by rfl, ?ylz4⟩) (by assumption) ?rlz4
    case ylz4 => (intro w hSw; go_simp; try with_reducible rfl)
    (try simp only [List.getElem_toArray, List.getElem_cons_succ, List.getElem_cons_zero, Act.put, List.setIfInBounds_toArray, List.set_cons_zero, List.set_cons_succ])
    refine wpAnyH_ready (rs := [5]) (by kernel_rfl) (by simp) ?_
    refine AllReadyH.cons (o := _) rfl (fun K hK => ?_) AllReadyH.nil
    (try simp only [List.getElem_toArray, List.getElem_cons_succ, List.getElem_cons_zero])
    go_simp
    refine (FA.out _ (by assumption)).mono ?_
    rintro e wA ⟨rfl, cvA, XA⟩
    have cvA : (convert 31 9 (.slice (some ⟨w62.heap.size, 0, none⟩) 512 512)).run Try.prog wA = .ok (.string sv0) wA := cvA
    refine hK.out _ _ ?_ (fun hHeld => ?_)
    · exact XA
    clear hK K
    (try simp only [List.getElem_toArray, List.getElem_cons_succ, List.getElem_cons_zero, Act.put, List.setIfInBounds_toArray, List.set_cons_zero, List.set_cons_succ])
    refine wpAnyH_ready (rs := [6]) (by kernel_rfl) (by simp) ?_
    refine AllReadyH.cons (o := _) rfl (fun K hK => ?_) AllReadyH.nil
    (try simp only [List.getElem_toArray, List.getElem_cons_succ, List.getElem_cons_zero])
    go_simp
    refine hK.out _ _ ?_ (fun hHeld => ?_)
    · exact XA
    clear hK K
    (try simp only [List.getElem_toArray, List.getElem_cons_succ, List.getElem_cons_zero, Act.put, List.setIfInBounds_toArray, List.set_cons_zero, List.set_cons_succ])
    refine wpAnyH_take (i := 7) (oi := _) (v := ?vlz7) rfl (by kernel_rfl) (by kernel_rfl) (by kernel_rfl) (fun _ _ _ h => h) (Or.inl ⟨by rfl, ?ylz7⟩) (by assumption) ?rlz7
    case ylz7 => (intro w hSw; go_simp; try with_reducible rfl)
    (try simp only [List.getElem_toArray, List.getElem_cons_succ, List.getElem_cons_zero, Act.put, List.setIfInBounds_toArray, List.set_cons_zero, List.set_cons_succ])
    refine wpAnyH_take (i := 8) (oi := _) (v := ?vlz8) rfl (by kernel_rfl) (by kernel_rfl) (by kernel_rfl) (fun _ _ _ h => h) (Or.inl ⟨by rfl, ?ylz8⟩) (by assumption) ?rlz8
    case ylz8 => (intro w hSw; go_simp; try with_reducible rfl)
    (try simp only [List.getElem_toArray, List.getElem_cons_succ, List.getElem_cons_zero, Act.put, List.setIfInBounds_toArray, List.set_cons_zero, List.set_cons_succ])
    refine wpAnyH_take (i := 9) (oi := _) (v := ?vlz9) rfl (by kernel_rfl) (by kernel_rfl) (by kernel_rfl) (fun _ _ _ h => h) (Or.inl ⟨by rfl, ?ylz9⟩) (by assumption) ?rlz9
    case ylz9 => (intro w hSw; go_simp; try with_reducible rfl)
    (try simp only [List.getElem_toArray, List.getElem_cons_succ, List.getElem_cons_zero, Act.put, List.setIfInBounds_toArray, List.set_cons_zero, List.set_cons_succ])
    refine wpAnyH_take (i := 10) (oi := _) (v := ?vlz10) rfl (by kernel_rfl) (by kernel_rfl) (by kernel_rfl) (fun _ _ _ h => h) (Or.inl ⟨by rfl, ?ylz10⟩) (by assumption) ?rlz10
    case ylz10 => (intro w hSw; go_simp; try with_reducible rfl)
    (try simp only [List.getElem_toArray, List.getElem_cons_succ, List.getElem_cons_zero, Act.put, List.setIfInBounds_toArray, List.set_cons_zero, List.set_cons_succ])
    refine wpAnyH_take (i := 11) (oi := _) (v := ?vlz11) rfl (by kernel_rfl) (by kernel_rfl) (by kernel_rfl) (fun _ _ _ h => h) (Or.inl ⟨by rfl, ?ylz11⟩) (by assumption) ?rlz11
    case ylz11 => (intro w hSw; go_simp; try with_reducible rfl)
    (try simp only [List.getElem_toArray, List.getElem_cons_succ, List.getElem_cons_zero, Act.put, List.setIfInBounds_toArray, List.set_cons_zero, List.set_cons_succ])
    refine wpAnyH_take (i := 12) (oi := _) (v := ?vlz12) rfl (by kernel_rfl) (by kernel_rfl) (by kernel_rfl) (fun _ _ _ h => h) (Or.inl ⟨by rfl, ?ylz12⟩) (by assumption) ?rlz12
    case ylz12 => (intro w hSw; go_simp; try with_reducible rfl)
    (try simp only [List.getElem_toArray, List.getElem_cons_succ, List.getElem_cons_zero, Act.put, List.setIfInBounds_toArray, List.set_cons_zero, List.set_cons_succ])
    refine wpAnyH_take (i := 13) (oi := _) (v := ?vlz13) rfl (by kernel_rfl) (by kernel_rfl) (by kernel_rfl) (fun _ _ _ h => h) (Or.inl ⟨by rfl, ?ylz13⟩) (by assumption) ?rlz13
    case ylz13 => (intro w hSw; go_simp; try with_reducible rfl)
    (try simp only [List.getElem_toArray, List.getElem_cons_succ, List.getElem_cons_zero, Act.put, List.setIfInBounds_toArray, List.set_cons_zero, List.set_cons_succ])
    refine wpAnyH_done (by kernel_rfl) ?_ _
    go_wp2
    go_ret
    exact ⟨rfl, Y.out.trans XA (fun _ _ h => h)⟩
  go_wp2
  go_loopg [9] 80 (fun kx s9 wr => ∃ (j : Nat) (s : St), s9 = .int .i64 j ∧ j ≤ n ∧ j ≤ 80 ∧ 80 - j ≤ kx ∧ Aside (DvIs wr La s (j + 2)) ∧ Aside (LastP s u (content c)) ∧ Aside (Chg (fun _ => False) w wr))
  case atStart => exact ⟨0, _, rfl, Nat.zero_le _, Nat.zero_le _, by omega, Da.out, PP.out, Y.out⟩
  case round =>
    clear Da Y PP
    obtain ⟨j, s, rfl, hjn, hj80, hg, Da, PP, Y⟩ := hrel
    have Da : Hid (DvIs wr La s (j + 2)) := Da
    have PP : Hid (LastP s u (content c)) := PP
    have Y : Hid (Chg (fun _ => False) w wr) := Y
    by_cases hlt : j < n
    · by_cases hl8 : j < 80
      · have hjl : j < l.length := by have := HN.out; omega
        obtain ⟨b, o, rfl, hb, C⟩ := HL.out.get j hjl
        obtain ⟨op, hop⟩ : ∃ x, x = l[j] := ⟨_, rfl⟩
        rw [← hop] at C
        have CC : CellsAt wr b (o + j * 7) (opCells op) := Y.out.cells C id
        clear C hb hop
        have c0 : wr.cell? ⟨b, o + j * 7, none⟩ = some (.int .i64 op.kind) := CC 0 _ rfl
        have c1 : wr.cell? ⟨b, o + j * 7 + 1, none⟩ = some (.int .i64 op.n) := CC 1 _ rfl
        have c2 : wr.cell? ⟨b, o + j * 7 + 2, none⟩ = some (.int .i64 op.c) := CC 2 _ rfl
        have c3 : wr.cell? ⟨b, o + j * 7 + 3, none⟩ = some (.int .i64 op.less) := CC 3 _ rfl
        have c4 : wr.cell? ⟨b, o + j * 7 + 4, none⟩ = some (.int .u64 op.mask) := CC 4 _ rfl
        have c5 : wr.cell? ⟨b, o + j * 7 + 5, none⟩ = some (.int .i64 op.torn) := CC 5 _ rfl
        have c6 : wr.cell? ⟨b, o + j * 7 + 6, none⟩ = some (.int .i64 op.bytes) := CC 6 _ rfl
        clear CC
        have z1 : (j : Int) < (n : Int) := by omega
        have z0 : (0 : Int) ≤ (j : Int) := by omega
        go_upto_region 11 with fail
        go_cut [10] (fun s10 wx => ∃ g, s10 = .pointer (some ⟨g, 0, none⟩) ∧ Aside (CellsAt wx g 0 (opCells op)) ∧ Aside (¬ Foot La g) ∧ Aside (DvIs wx La s (j + 2)) ∧ Aside (Chg (fun _ => False) w wx))
        case first =>
          go_wp2
          go_meet
          exact ⟨wr.heap.size, rfl, cellsAt_new wr (opCells op) 30, fun h => by have := Da.out.lt _ h; omega, Da.out.ext (((Ext.refl wr).alloc _).chg _), Y.out.trans (((Ext.refl wr).alloc _).chg _) (fun _ _ h => h)⟩
        case rest =>
          clear Da Y c0 c1 c2 c3 c4 c5 c6
          obtain ⟨g, rfl, CC, fg, Da, Y⟩ := hcut
          have fg : Hid (¬ Foot La g) := fg
          have Da : Hid (DvIs wc La s (j + 2)) := Da
          have Y : Hid (Chg (fun _ => False) w wc) := Y
          obtain ⟨w20, hwc⟩ : ∃ W, W = wc := ⟨_, rfl⟩
          rw [← hwc] at Da Y CC ⊢
          clear hwc
          have CC : CellsAt w20 g 0 (opCells op) := CC
          have c0 : w20.cell? ⟨g, 0, none⟩ = some (.int .i64 op.kind) := CC 0 _ rfl
          have c1 : w20.cell? ⟨g, 1, none⟩ = some (.int .i64 op.n) := CC 1 _ rfl
          have c2 : w20.cell? ⟨g, 2, none⟩ = some (.int .i64 op.c) := CC 2 _ rfl
          have c3 : w20.cell? ⟨g, 3, none⟩ = some (.int .i64 op.less) := CC 3 _ rfl
          have c4 : w20.cell? ⟨g, 4, none⟩ = some (.int .u64 op.mask) := CC 4 _ rfl
          have c5 : w20.cell? ⟨g, 5, none⟩ = some (.int .i64 op.torn) := CC 5 _ rfl
          have c6 : w20.cell? ⟨g, 6, none⟩ = some (.int .i64 op.bytes) := CC 6 _ rfl
          clear CC
          have b7 := bits7 op.n
          generalize op.kind = kd at c0
          go_upto_block 2 with fail
          go_cut [] (fun wx => ∃ s' : St, Aside (DvIs wx La s' (j + 3)) ∧ Aside (LastP s' u (content c)) ∧ Aside (Chg (fun _ => False) w wx))
          case first =>
            have c1 := Lib.hid c1
            have c3 := Lib.hid c3
            by_cases k2 : kd = 2
            · subst k2
              have q := flush_st Da.out (by omega)
              have q := Lib.hid q
              go_wp2_with fail
              refine q.out.mono ?_
              rintro e w21 ⟨rfl, DD, X⟩
              have Da : Hid (DvIs w21 La ((flushS s).1) (j + 3)) := DD
              have Y : Hid (Chg (fun _ => False) w w21) := Y.out.trans X (fun i hi h => absurd hi (by have := fra.out i h; omega))
              clear q X DD
              go_wp2_with fail
              go_meet
              exact ⟨_, Da.out.mono (by omega), PP.out.flush, Y.out⟩
            have k2' : (kd == 2) = false := by simpa using k2
            by_cases k3 : kd = 3
            · subst k3
              have q := crash_st Da.out (by omega) op.mask op.torn op.bytes op.wm
              have q := Lib.hid q
              go_wp2_with fail
              refine q.out.mono ?_
              rintro e w21 ⟨rfl, DD, X⟩
              have Da : Hid (DvIs w21 La (crashS s op.mask op.torn op.bytes) (j + 2)) := DD
              have Y : Hid (Chg (fun _ => False) w w21) := Y.out.trans X (fun i hi h => absurd hi (by have := fra.out i h; omega))
              clear q X DD
              go_wp2_with fail
              go_meet
              exact ⟨_, Da.out.mono (by omega), PP.out.crash _ _ _, Y.out⟩
            have k3' : (kd == 3) = false := by simpa using k3
            by_cases k4 : kd = 4
            · subst k4
              have q := start_st Da.out
              have q := Lib.hid q
              go_wp2_with fail
              refine q.out.mono ?_
              rintro e w21 ⟨rfl, DD, X⟩
              have Da : Hid (DvIs w21 La (startS s) (j + 2)) := DD
              have Y : Hid (Chg (fun _ => False) w w21) := Y.out.trans X (fun i hi h => absurd hi (by have := fra.out i h; omega))
              clear q X DD
              go_wp2_with fail
              go_meet
              exact ⟨_, Da.out.mono (by omega), PP.out.start, Y.out⟩
            have k4' : (kd == 4) = false := by simpa using k4
            by_cases k5 : kd = 5
            · subst k5
              have q := arm_st Da.out op.c op.mask op.torn op.bytes ((wfK_iff _).1 op.wc).2 op.wm
              have q := Lib.hid q
              go_wp2_with fail
              refine q.out.mono ?_
              rintro e w21 ⟨rfl, DD, X⟩
              have Da : Hid (DvIs w21 La (armS s op.c op.mask op.torn op.bytes) (j + 2)) := DD
              have Y : Hid (Chg (fun _ => False) w w21) := Y.out.trans X (fun i hi h => absurd hi (by have := fra.out i h; omega))
              clear q X DD
              go_wp2_with fail
              go_meet
              exact ⟨_, Da.out.mono (by omega), PP.out.arm _ _ _ _, Y.out⟩
            have k5' : (kd == 5) = false := by simpa using k5
            have c1 := c1.out
            by_cases ke : op.n % 8 = u
            · have ke' : (op.n % 8 == u) = true := by simpa using ke
              go_wp2_with fail
              go_meet
              exact ⟨_, Da.out.mono (by omega), PP.out, Y.out⟩
            · have ke' : (op.n % 8 == u) = false := by simpa using ke
              have r1 : ∀ W, Chg (Foot La) w20 W → W.cell? ⟨g, 1, none⟩ = some (.int .i64 op.n) := fun W X => X.cell c1 fg.out
              have r2 : ∀ W, Chg (Foot La) w20 W → W.cell? ⟨g, 2, none⟩ = some (.int .i64 op.c) := fun W X => X.cell c2 fg.out
              have KD : Hid (Chg (Foot La) w20 w20.drew) := (Ext.refl w20).drew.chg _
              go_upto_region 14 with fail
              refine wp_region_held_drew (S := fun W => Chg (Foot La) w20 W) (by kernel_rfl) KD.out (fun hHeld => ?_)
              refine wpAnyH_take (i := 0) (oi := _) (v := ?vla0) rfl (by kernel_rfl) (by kernel_rfl) (by kernel_rfl) (fun _ _ _ h => h) (Or.inl ⟨by rfl, ?yla0⟩) (by assumption) ?rla0
              case yla0 => (intro w hSw; go_simp; try with_reducible rfl)
              (try simp only [List.getElem_toArray, List.getElem_cons_succ, List.getElem_cons_zero, Act.put, List.setIfInBounds_toArray, List.set_cons_zero, List.set_cons_succ])
              refine wpAnyH_take (i := 1) (oi := _) (v := ?vla1) rfl (by kernel_rfl) (by kernel_rfl) (by kernel_rfl) (fun _ _ _ h => h) (Or.inl ⟨by rfl, ?yla1⟩) (by assumption) ?rla1
              case yla1 => (intro w hSw; go_simp; try with_reducible rfl)
              (try simp only [List.getElem_toArray, List.getElem_cons_succ, List.getElem_cons_zero, Act.put, List.setIfInBounds_toArray, List.set_cons_zero, List.set_cons_succ])
              refine wpAnyH_take (i := 2) (oi := _) (v := ?vla2) rfl (by kernel_rfl) (by kernel_rfl) (by kernel_rfl) (fun _ _ _ h => h) (Or.inl ⟨by rfl, ?yla2⟩) (by assumption) ?rla2
              case yla2 => (intro w hSw; go_simp; try with_reducible rfl)
              (try simp only [List.getElem_toArray, List.getElem_cons_succ, List.getElem_cons_zero, Act.put, List.setIfInBounds_toArray, List.set_cons_zero, List.set_cons_succ])
              refine wpAnyH_take (i := 3) (oi := _) (v := ?vla3) rfl (by kernel_rfl) (by kernel_rfl) (by kernel_rfl) (fun _ _ _ h => h) (Or.inl ⟨by rfl, ?yla3⟩) (by assumption) ?rla3
              case yla3 => (intro w hSw; go_simp; try with_reducible rfl)
              (try simp only [List.getElem_toArray, List.getElem_cons_succ, List.getElem_cons_zero, Act.put, List.setIfInBounds_toArray, List.set_cons_zero, List.set_cons_succ])
              refine wpAnyH_take (i := 4) (oi := _) (v := ?vla4) rfl (by kernel_rfl) (by kernel_rfl) (by kernel_rfl) (fun _ _ _ h => h) (Or.inl ⟨by rfl, ?yla4⟩) (by assumption) ?rla4
              case yla4 => (intro w hSw; go_simp; try with_reducible rfl)
              (try simp only [List.getElem_toArray, List.getElem_cons_succ, List.getElem_cons_zero, Act.put, List.setIfInBounds_toArray, List.set_cons_zero, List.set_cons_succ])
              refine wpAnyH_take (i := 5) (oi := _) (v := ?vla5) rfl (by kernel_rfl) (by kernel_rfl) (by kernel_rfl) (fun _ _ _ h => h) (Or.inl ⟨by rfl, ?yla5⟩) (by assumption) ?rla5
              case yla5 => (intro w hSw; go_simp; try with_reducible rfl)
              (try simp only [List.getElem_toArray, List.getElem_cons_succ, List.getElem_cons_zero, Act.put, List.setIfInBounds_toArray, List.set_cons_zero, List.set_cons_succ])
              refine wpAnyH_ready (rs := [6]) (by kernel_rfl) (by simp) ?_
              refine AllReadyH.cons (o := _) rfl (fun K hK => ?_) AllReadyH.nil
              (try simp only [List.getElem_toArray, List.getElem_cons_succ, List.getElem_cons_zero])
              go_simp
              refine (content_st (op.c) _).mono ?_
              rintro e wA ⟨rfl, LC, XA⟩
              have XA : Hid (Chg (fun _ => False) w20 wA) := ((Ext.refl w20).drew.chg _).trans XA (fun _ _ h => h)
              have LC := Lib.hid LC
              have gp : Hid (w20.drew.heap.size ≠ La.p) := fun e => by have := Da.out.lt _ (.inl rfl); simp at e; omega
              refine hK.out _ _ ?_ (fun hHeld => ?_)
              · exact XA.out.mono (fun _ _ h => h.elim)
              clear hK K
              (try simp only [List.getElem_toArray, List.getElem_cons_succ, List.getElem_cons_zero, Act.put, List.setIfInBounds_toArray, List.set_cons_zero, List.set_cons_succ])
              refine wpAnyH_ready (rs := [7]) (by kernel_rfl) (by simp) ?_
              refine AllReadyH.cons (o := _) rfl (fun K hK => ?_) AllReadyH.nil
              (try simp only [List.getElem_toArray, List.getElem_cons_succ, List.getElem_cons_zero])
              go_simp
              have qw := write_st (cb := 512) (k := op.n % 8) (Da.out.ext XA.out) (by omega) (wf_mod8 _) LC.out gp.out (full_content (op.c))
              refine qw.mono ?_
              clear qw
              rintro e wB ⟨rfl, DB, XB⟩
              have XB : Hid (Chg (Foot La) w20 wB) := (XA.out.mono (fun _ _ h => h.elim)).trans XB (fun _ _ h => h)
              have DB : Hid (DvIs wB La (writeS (s) (op.n % 8) (content (op.c))).1 (j + 2 + 1)) := DB
              refine hK.out _ _ ?_ (fun hHeld => ?_)
              · exact XB.out
              clear hK K
              (try simp only [List.getElem_toArray, List.getElem_cons_succ, List.getElem_cons_zero, Act.put, List.setIfInBounds_toArray, List.set_cons_zero, List.set_cons_succ])
              refine wpAnyH_done (by kernel_rfl) ?_ _
              go_wp2_with fail
              go_meet
              exact ⟨_, DB.out, PP.out.write ke _, Y.out.trans XB.out (fun i hi h => absurd hi (by have := fra.out i h; omega))⟩
          case rest =>
            clear Da Y PP c0 c1 c2 c3 c4 c5 c6 b7
            obtain ⟨t, Da, PP, Y⟩ := hcut
            have Da : Hid (DvIs wc La t (j + 3)) := Da
            have PP : Hid (LastP t u (content c)) := PP
            have Y : Hid (Chg (fun _ => False) w wc) := Y
            obtain ⟨w40, hwc⟩ : ∃ W, W = wc := ⟨_, rfl⟩
            rw [← hwc] at Da Y ⊢
            clear hwc
            cases hd : t.d.down with
            | true =>
              have q := up_st Da.out
              rw [hd] at q
              have q := Lib.hid q
              go_wp2_with fail
              refine q.out.mono ?_
              rintro e wq ⟨rfl, hw⟩
              have hw := hw.symm
              subst hw
              clear q
              clear hd
              go_wp2
              go_roundg (80 - (j + 1))
              case measure => omega
              case rel => exact ⟨j + 1, _, by go_num, by omega, by omega, Nat.le_refl _, Da.out.mono (by omega), PP.out, Y.out⟩
            | false =>
              have q := up_st Da.out
              rw [hd] at q
              have q := Lib.hid q
              go_wp2_with fail
              refine q.out.mono ?_
              rintro e wq ⟨rfl, hw⟩
              have hw := hw.symm
              subst hw
              clear q
              have q := Lib.hid (read_st Da.out wu.out (PP.out.may hd u0 u8))
              go_wp2_with fail
              refine q.out.mono ?_
              rintro e w41 ⟨rfl, B, X⟩
              have R0 : CellsAt w41 w40.heap.size 0 (blkCells (newest t.G t.lo u)) := cellsAt_blk B
              rw [PP.out.newest] at R0
              have R0 := Lib.hid R0
              have Da := Lib.hid (Da.out.chg X (fun _ _ h => h))
              have Y : Hid (Chg (fun _ => False) w w41) := Y.out.trans X (fun i hi h => h.elim)
              clear q X B
              clear hd
              have cv0 : ∀ W, Chg (fun _ => False) w41 W → (convert 31 9 (.slice (some ⟨w40.heap.size, 0, none⟩) 512 512)).run Try.prog W = .ok (.string (strB (content c))) W := fun W X => conv_blk _ (full_content c).1 W _ 0 512 (X.cells R0.out id)
              have FA : Hid (∀ W, Chg (fun _ => False) w41 W → Calls Try.prog 13 #[.int .i64 c] W fun e w' => e = .returned (.slice (some ⟨W.heap.size, 0, none⟩) 512 512) ∧ (convert 31 9 (.slice (some ⟨W.heap.size, 0, none⟩) 512 512)).run Try.prog w' = .ok (.string (strB (content c))) w' ∧ Chg (fun _ => False) w41 w') := fun W X =>
                (content_st c W).mono fun e w' ⟨he, LC, X'⟩ => ⟨he, conv_blk _ (full_content c).1 w' _ 0 512 LC, X.trans X' (fun _ _ h => h)⟩
              have KD : Hid (Chg (fun _ => False) w41 w41.drew) := (Ext.refl w41).drew.chg _
              clear R0
              generalize strB (content c) = sv0 at *
              go_upto_region 25 with fail
              refine wp_region_held_drew (S := fun W => Chg (fun _ => False) w41 W) (by kernel_rfl) KD.out (fun hHeld => ?_)
              refine wpAnyH_take (i := 0) (oi := _) (v := ?vlr0) rfl (by kernel_rfl) (by kernel_rfl) (by kernel_rfl) (fun _ _ _ h => h) (Or.inl ⟨by rfl, ?ylr0⟩) (by assumption) ?rlr0
              case ylr0 => (intro w hSw; go_simp; try with_reducible rfl)
              (try simp only [List.getElem_toArray, List.getElem_cons_succ, List.getElem_cons_zero, Act.put, List.setIfInBounds_toArray, List.set_cons_zero, List.set_cons_succ])
              refine wpAnyH_take (i := 1) (oi := _) (v := ?vlr1) rfl (by kernel_rfl) (by kernel_rfl) (by kernel_rfl) (fun _ _ _ h => h) (Or.inl ⟨by rfl, ?ylr1⟩) (by assumption) ?rlr1
              case ylr1 => (intro w hSw; go_simp; try with_reducible rfl)
              (try simp only [List.getElem_toArray, List.getElem_cons_succ, List.getElem_cons_zero, Act.put, List.setIfInBounds_toArray, List.set_cons_zero, List.set_cons_succ])
              refine wpAnyH_take (i := 2) (oi := _) (v := ?vlr2) rfl (by kernel_rfl) (by kernel_rfl) (by kernel_rfl) (fun _ _ _ h => h) (Or.inl ⟨by rfl, ?ylr2⟩) (by assumption) ?rlr2
              case ylr2 => (intro w hSw; go_simp; try with_reducible rfl)
              (try simp only [List.getElem_toArray, List.getElem_cons_succ, List.getElem_cons_zero, Act.put, List.setIfInBounds_toArray, List.set_cons_zero, List.set_cons_succ])
              refine wpAnyH_ready (rs := [3]) (by kernel_rfl) (by simp) ?_
              refine AllReadyH.cons (o := _) rfl (fun K hK => ?_) AllReadyH.nil
              (try simp only [List.getElem_toArray, List.getElem_cons_succ, List.getElem_cons_zero])
              go_simp
              refine (FA.out _ (by assumption)).mono ?_
              rintro e wA ⟨rfl, cvA, XA⟩
              have cvA : (convert 31 9 (.slice (some ⟨w41.heap.size, 0, none⟩) 512 512)).run Try.prog wA = .ok (.string sv0) wA := cvA
              refine hK.out _ _ ?_ (fun hHeld => ?_)
              · exact XA
              clear hK K
              (try simp only [List.getElem_toArray, List.getElem_cons_succ, List.getElem_cons_zero, Act.put, List.setIfInBounds_toArray, List.set_cons_zero, List.set_cons_succ])
              refine wpAnyH_ready (rs := [4]) (by kernel_rfl) (by simp) ?_
              refine AllReadyH.cons (o := _) rfl (fun K hK => ?_) AllReadyH.nil
              (try simp only [List.getElem_toArray, List.getElem_cons_succ, List.getElem_cons_zero])
              go_simp
              refine hK.out _ _ ?_ (fun hHeld => ?_)
              · exact XA
              clear hK K
              (try simp only [List.getElem_toArray, List.getElem_cons_succ, List.getElem_cons_zero, Act.put, List.setIfInBounds_toArray, List.set_cons_zero, List.set_cons_succ])
              refine wpAnyH_take (i := 5) (oi := _) (v := ?vlr5) rfl (by kernel_rfl) (by kernel_rfl) (by kernel_rfl) (fun _ _ _ h => h) (Or.inl ⟨by rfl, ?ylr5⟩) (by assumption) ?rlr5
              case ylr5 => (intro w hSw; go_simp; try with_reducible rfl)
              (try simp only [List.getElem_toArray, List.getElem_cons_succ, List.getElem_cons_zero, Act.put, List.setIfInBounds_toArray, List.set_cons_zero, List.set_cons_succ])
              refine wpAnyH_take (i := 6) (oi := _) (v := ?vlr6) rfl (by kernel_rfl) (by kernel_rfl) (by kernel_rfl) (fun _ _ _ h => h) (Or.inl ⟨by rfl, ?ylr6⟩) (by assumption) ?rlr6
              case ylr6 => (intro w hSw; go_simp; try with_reducible rfl)
              (try simp only [List.getElem_toArray, List.getElem_cons_succ, List.getElem_cons_zero, Act.put, List.setIfInBounds_toArray, List.set_cons_zero, List.set_cons_succ])
              refine wpAnyH_take (i := 7) (oi := _) (v := ?vlr7) rfl (by kernel_rfl) (by kernel_rfl) (by kernel_rfl) (fun _ _ _ h => h) (Or.inl ⟨by rfl, ?ylr7⟩) (by assumption) ?rlr7
              case ylr7 => (intro w hSw; go_simp; try with_reducible rfl)
              (try simp only [List.getElem_toArray, List.getElem_cons_succ, List.getElem_cons_zero, Act.put, List.setIfInBounds_toArray, List.set_cons_zero, List.set_cons_succ])
              refine wpAnyH_take (i := 8) (oi := _) (v := ?vlr8) rfl (by kernel_rfl) (by kernel_rfl) (by kernel_rfl) (fun _ _ _ h => h) (Or.inl ⟨by rfl, ?ylr8⟩) (by assumption) ?rlr8
              case ylr8 => (intro w hSw; go_simp; try with_reducible rfl)
              (try simp only [List.getElem_toArray, List.getElem_cons_succ, List.getElem_cons_zero, Act.put, List.setIfInBounds_toArray, List.set_cons_zero, List.set_cons_succ])
              refine wpAnyH_take (i := 9) (oi := _) (v := ?vlr9) rfl (by kernel_rfl) (by kernel_rfl) (by kernel_rfl) (fun _ _ _ h => h) (Or.inl ⟨by rfl, ?ylr9⟩) (by assumption) ?rlr9
              case ylr9 => (intro w hSw; go_simp; try with_reducible rfl)
              (try simp only [List.getElem_toArray, List.getElem_cons_succ, List.getElem_cons_zero, Act.put, List.setIfInBounds_toArray, List.set_cons_zero, List.set_cons_succ])
              refine wpAnyH_done (by kernel_rfl) ?_ _
              go_wp2
              go_roundg (80 - (j + 1))
              case measure => omega
              case rel => exact ⟨j + 1, _, by go_num, by omega, by omega, Nat.le_refl _, (Da.out.ext XA).mono (by omega), PP.out, Y.out.trans XA (fun _ _ h => h)⟩
      · have hd : decide ((j : Int) < 80) = false := by simp; omega
        go_wp2_with fail
        go_meet
        exact ⟨s, Da.out.mono (by omega), PP.out, Y.out⟩
    · go_wp2_with fail
      go_meet
      exact ⟨s, Da.out.mono (by omega), PP.out, Y.out⟩
end Go.Proofs.Ytedcpmkfanlicaa
