/- DeviceEnds's walk. -/
import Derived.Test.YtedcpmkfanlicaaDvBits
import Derived.Deep.RegionHeld3
import Derived.Deep.LoopGhost
import Derived.Deep.CutBlock
import Derived.Deep.DeepCutAuto
set_option linter.unusedVariables false
set_option linter.unusedSimpArgs false
namespace Go.Proofs.Ytedcpmkfanlicaa
open Go Go.RowKit Go.Sort Go.Lib Go.Maps Go.Deep
set_option maxHeartbeats 4000000 in
set_option maxRecDepth 100000 in
theorem deviceEnds_any (w : World) (a : Option Addr) (cap : Nat) (l : List OpV) (mask torn : Int) (whole : Bool) (HL : OpsIn w a l) (hm : u64 mask) (ht : wfK torn) :
    Calls Try.prog 8 #[.slice a l.length cap, .int .u64 mask, .int .i64 torn, .bool whole] w fun e w' => e = .returned (.bool true) ∧ Chg (fun _ => False) w w' := by
  have mixed := Try.mixed
  have S0 := Lib.hid (shown_any w)
  have hsm : l.length ≤ 9223372036854775807 := HL.small
  have HL := Lib.hid HL
  have HM := Lib.hid hm
  clear hm ht
  generalize hn : l.length = n at hsm ⊢
  have HN := Lib.hid hn
  clear hn
  go_enter Try.func8, Try.ntmps8
  go_wp2_with fail
  refine S0.out.mono ?_
  rintro e w0 ⟨rfl, Y0⟩
  have Y : Hid (Chg (fun _ => False) w w0) := Y0
  clear Y0 S0
  have q := Lib.hid (new_st 8 w0)
  go_wp2_with fail
  refine q.out.mono ?_
  rintro e w1 ⟨rfl, DD, X⟩
  obtain ⟨La, hL⟩ : ∃ L : Loc, L = ⟨w0.heap.size + 2, w0.heap.size, w0.heap.size + 1⟩ := ⟨_, rfl⟩
  have eL : w0.heap.size + 2 = La.p := by rw [hL]
  have fka : Hid (∀ i, Foot La i → w0.heap.size ≤ i) := by rw [hL]; rintro i (rfl | rfl | rfl) <;> (simp only; omega)
  have fra : Hid (∀ i, Foot La i → w.heap.size ≤ i) := fun i h => by have := Y.out.size; have := fka.out i h; omega
  have Da : Hid (DvIs w1 La (newS 8) 0) := by rw [hL]; exact DD
  have Y : Hid (Chg (fun _ => False) w w1) := Y.out.trans X (fun i hi h => h.elim)
  rw [eL]
  clear q X DD hL eL fka
  go_upto_block 0 with fail
  go_cut [11] (fun s11 wx => ∃ s : St, Aside (DvIs wx La s 30) ∧ Aside (Rdy s) ∧ Aside (Chg (fun _ => False) w wx))
  case rest =>
    clear Da Y HL HN hsm
    obtain ⟨s, Da, RS, Y⟩ := hcut
    have Da : Hid (DvIs wc La s 30) := Da
    have RS : Hid (Rdy s) := RS
    have Y : Hid (Chg (fun _ => False) w wc) := Y
    obtain ⟨w10, hwc⟩ : ∃ W, W = wc := ⟨_, rfl⟩
    rw [← hwc] at Da Y ⊢
    clear hwc
    have q := Lib.hid (clone_st Da.out)
    go_wp2_with fail
    refine q.out.mono ?_
    rintro e w11 ⟨Lb, rfl, DD, fkb, X⟩
    have fkb := Lib.hid fkb
    have frb : Hid (∀ i, Foot Lb i → w.heap.size ≤ i) := fun i h => by have := Y.out.size; have := fkb.out i h; omega
    have Db : Hid (DvIs w11 Lb (s) 30) := DD
    have djab : Hid (∀ i, Foot La i → ¬ Foot Lb i) := fun i h h' => by have := fkb.out i h'; have := Da.out.lt i h; omega
    have djba : Hid (∀ i, Foot Lb i → ¬ Foot La i) := fun i h h' => djab.out i h' h
    have Da := Lib.hid (Da.out.chg X (fun _ _ h => h))
    have Y : Hid (Chg (fun _ => False) w w11) := Y.out.trans X (fun i hi h => h.elim)
    clear q X DD fkb
    obtain ⟨u, hu, hu8⟩ : ∃ u : Nat, torn % 8 = u ∧ u < 8 := ⟨(torn % 8).toNat, by omega, by omega⟩
    have b7 := bits7 torn
    rw [hu] at b7
    have HU := Lib.hid hu
    clear hu
    have EA := Lib.hid (ends_all Da.out (Nat.le_refl _) mask HM.out u hu8)
    have EN := Lib.hid (ends_none Da.out (Nat.le_refl _) mask HM.out u hu8)
    have z3 : (u : Int).toNat = u := Int.toNat_natCast u
    have z4 : min u 64 = u := by omega
    have z5 : ¬ (u : Int) < 0 := by omega
    have z6 : (0 : Int) ≤ (u : Int) := by omega
    have z7 : IntKind.u64.wrap (2 ^ u) = 2 ^ u := by
      rw [IntKind.wrap_u64]
      have h : (2 : Int) ^ u ≤ 2 ^ 7 := by
        have : (2 : Nat) ^ u ≤ 2 ^ 7 := Nat.pow_le_pow_right (by decide) (by omega)
        exact_mod_cast this
      have h0 : (0 : Int) < 2 ^ u := Int.pow_pos (by decide)
      omega
    have z8 : IntKind.u64.wrap (u : Int) = (u : Int) := by rw [IntKind.wrap_u64]; omega
    go_upto_if 53 with fail
    go_cut [] (fun wx => ∃ sa sb : St, Aside (DvIs wx La sa 30) ∧ Aside (DvIs wx Lb sb 30) ∧ Aside (sa.d.n = 8 ∧ sb.d.n = 8 ∧ sa.G = sb.G ∧ sa.lo = [] ∧ sb.lo = []) ∧ Aside (Chg (fun _ => False) w wx))
    case first =>
      cases whole with
      | true =>
        have q := crash_st Da.out (by omega) mask u 512 HM.out
        have q := Lib.hid q
        go_wp2_with fail
        refine q.out.mono ?_
        rintro e w12 ⟨rfl, DD, X⟩
        have Da : Hid (DvIs w12 La (crashS s mask u 512) (30)) := DD
        have Db := Lib.hid (Db.out.chg X djba.out)
        have Y : Hid (Chg (fun _ => False) w w12) := Y.out.trans X (fun i hi h => absurd hi (by have := fra.out i h; omega))
        clear q X DD
        have q := crash_st Db.out (by omega) (bits .or .u64 mask (2 ^ u)) (-1) 0 (u64_wrap _)
        have q := Lib.hid q
        go_wp2_with fail
        refine q.out.mono ?_
        rintro e w13 ⟨rfl, DD, X⟩
        have Db : Hid (DvIs w13 Lb (crashS s (bits .or .u64 mask (2 ^ u)) (-1) 0) (30)) := DD
        have Da := Lib.hid (Da.out.chg X djab.out)
        have Y : Hid (Chg (fun _ => False) w w13) := Y.out.trans X (fun i hi h => absurd hi (by have := frb.out i h; omega))
        clear q X DD
        go_wp2_with fail
        go_meet
        refine ⟨_, _, Da.out, Db.out, ⟨?_, ?_, ?_, ?_, ?_⟩, Y.out⟩
        · rw [crashS_n]; exact RS.out.n8
        · rw [crashS_n]; exact RS.out.n8
        · rw [crashS_up RS.out.up, crashS_up RS.out.up]; exact EA.out
        · rw [crashS_up RS.out.up]
        · rw [crashS_up RS.out.up]
      | false =>
        have q := crash_st Da.out (by omega) mask u (-3) HM.out
        have q := Lib.hid q
        go_wp2_with fail
        refine q.out.mono ?_
        rintro e w12 ⟨rfl, DD, X⟩
        have Da : Hid (DvIs w12 La (crashS s mask u (-3)) (30)) := DD
        have Db := Lib.hid (Db.out.chg X djba.out)
        have Y : Hid (Chg (fun _ => False) w w12) := Y.out.trans X (fun i hi h => absurd hi (by have := fra.out i h; omega))
        clear q X DD
        have q := crash_st Db.out (by omega) (bits .andNot .u64 mask (2 ^ u)) (-1) 0 (u64_wrap _)
        have q := Lib.hid q
        go_wp2_with fail
        refine q.out.mono ?_
        rintro e w13 ⟨rfl, DD, X⟩
        have Db : Hid (DvIs w13 Lb (crashS s (bits .andNot .u64 mask (2 ^ u)) (-1) 0) (30)) := DD
        have Da := Lib.hid (Da.out.chg X djab.out)
        have Y : Hid (Chg (fun _ => False) w w13) := Y.out.trans X (fun i hi h => absurd hi (by have := frb.out i h; omega))
        clear q X DD
        go_wp2_with fail
        go_meet
        refine ⟨_, _, Da.out, Db.out, ⟨?_, ?_, ?_, ?_, ?_⟩, Y.out⟩
        · rw [crashS_n]; exact RS.out.n8
        · rw [crashS_n]; exact RS.out.n8
        · rw [crashS_up RS.out.up, crashS_up RS.out.up]; exact EN.out
        · rw [crashS_up RS.out.up]
        · rw [crashS_up RS.out.up]
    case rest =>
      clear Da Db Y EA EN
      obtain ⟨sa, sb, Da, Db, P, Y⟩ := hcut
      have Da : Hid (DvIs wc La sa 30) := Da
      have Db : Hid (DvIs wc Lb sb 30) := Db
      have P : Hid (sa.d.n = 8 ∧ sb.d.n = 8 ∧ sa.G = sb.G ∧ sa.lo = [] ∧ sb.lo = []) := P
      have Y : Hid (Chg (fun _ => False) w wc) := Y
      obtain ⟨w30, hwc⟩ : ∃ W, W = wc := ⟨_, rfl⟩
      rw [← hwc] at Da Db Y ⊢
      clear hwc
      have q := start_st Da.out
      have q := Lib.hid q
      go_wp2_with fail
      refine q.out.mono ?_
      rintro e w31 ⟨rfl, DD, X⟩
      have Da : Hid (DvIs w31 La (startS sa) (30)) := DD
      have Db := Lib.hid (Db.out.chg X djba.out)
      have Y : Hid (Chg (fun _ => False) w w31) := Y.out.trans X (fun i hi h => absurd hi (by have := fra.out i h; omega))
      clear q X DD
      have q := start_st Db.out
      have q := Lib.hid q
      go_wp2_with fail
      refine q.out.mono ?_
      rintro e w32 ⟨rfl, DD, X⟩
      have Db : Hid (DvIs w32 Lb (startS sb) (30)) := DD
      have Da := Lib.hid (Da.out.chg X djab.out)
      have Y : Hid (Chg (fun _ => False) w w32) := Y.out.trans X (fun i hi h => absurd hi (by have := frb.out i h; omega))
      clear q X DD
      obtain ⟨ta, hsa⟩ : ∃ q, q = startS sa := ⟨_, rfl⟩
      obtain ⟨tb, hsb⟩ : ∃ q, q = startS sb := ⟨_, rfl⟩
      have MA : Hid (∀ j : Nat, j < 8 → mayS ta j = 0) := fun j hj => mayS_up (by rw [hsa]; rfl) (by rw [hsa]; exact P.out.1) j hj
      have MB : Hid (∀ j : Nat, j < 8 → mayS tb j = 0) := fun j hj => mayS_up (by rw [hsb]; rfl) (by rw [hsb]; exact P.out.2.1) j hj
      have NE : Hid (∀ j : Nat, newest tb.G tb.lo j = newest ta.G ta.lo j) := fun j => by
        rw [hsa, hsb]
        show newest sb.G sb.lo j = newest sa.G sa.lo j
        rw [P.out.2.2.1, P.out.2.2.2.1, P.out.2.2.2.2]
      rw [← hsa] at Da
      rw [← hsb] at Db
      clear hsa hsb P RS HM
      go_wp2
      go_loopg [13] 8 (fun kx s13 wr => ∃ j : Nat, s13 = .int .i64 j ∧ j ≤ 8 ∧ 8 - j ≤ kx ∧ Aside (DvIs wr La ta 30) ∧ Aside (DvIs wr Lb tb 30) ∧ Aside (Chg (fun _ => False) w wr))
      case atStart => exact ⟨0, rfl, by omega, by omega, Da.out, Db.out, Y.out⟩
      case round =>
        clear Da Db Y
        obtain ⟨j, rfl, hj, hg, Da, Db, Y⟩ := hrel
        have Da : Hid (DvIs wr La ta 30) := Da
        have Db : Hid (DvIs wr Lb tb 30) := Db
        have Y : Hid (Chg (fun _ => False) w wr) := Y
        obtain ⟨w40, hwc⟩ : ∃ W, W = wr := ⟨_, rfl⟩
        rw [← hwc] at Da Db Y ⊢
        clear hwc
        by_cases hlt : j < 8
        · have z1 : (j : Int) < 8 := by omega
          have q := Lib.hid (read_st Da.out (wf_nat (by omega)) (MA.out j hlt))
          go_wp2_with fail
          refine q.out.mono ?_
          rintro e w41 ⟨rfl, B, X⟩
          have R0 : CellsAt w41 w40.heap.size 0 (blkCells (newest ta.G ta.lo j)) := cellsAt_blk B
          have R0 := Lib.hid R0
          have Da := Lib.hid (Da.out.chg X (fun _ _ h => h))
          have Db := Lib.hid (Db.out.chg X (fun _ _ h => h))
          have Y : Hid (Chg (fun _ => False) w w41) := Y.out.trans X (fun i hi h => h.elim)
          clear q X B
          have q := Lib.hid (read_st Db.out (wf_nat (by omega)) (MB.out j hlt))
          go_wp2_with fail
          refine q.out.mono ?_
          rintro e w42 ⟨rfl, B, X⟩
          have R1 : CellsAt w42 w41.heap.size 0 (blkCells (newest tb.G tb.lo j)) := cellsAt_blk B
          rw [NE.out j] at R1
          have R1 := Lib.hid R1
          have Da := Lib.hid (Da.out.chg X (fun _ _ h => h))
          have Db := Lib.hid (Db.out.chg X (fun _ _ h => h))
          have R0 := Lib.hid (X.cells R0.out id)
          have Y : Hid (Chg (fun _ => False) w w42) := Y.out.trans X (fun i hi h => h.elim)
          clear q X B
          have fu : Hid (Full (newest ta.G ta.lo j)) := Da.out.fullN j
          have cv0 : (convert 31 9 (.slice (some ⟨w40.heap.size, 0, none⟩) 512 512)).run Try.prog w42 = .ok (.string (strB (newest ta.G ta.lo j))) w42 := conv_blk _ fu.out.1 _ _ 0 512 R0.out
          have cv1 : (convert 31 9 (.slice (some ⟨w41.heap.size, 0, none⟩) 512 512)).run Try.prog w42 = .ok (.string (strB (newest ta.G ta.lo j))) w42 := conv_blk _ fu.out.1 _ _ 0 512 R1.out
          clear R0 R1 fu
          generalize strB (newest ta.G ta.lo j) = sv at cv0 cv1
          go_wp2
          go_roundg (8 - (j + 1))
          case measure => omega
          case rel => exact ⟨j + 1, by go_num, by omega, Nat.le_refl _, Da.out, Db.out, Y.out⟩
        · have z1 : ¬ (j : Int) < 8 := by omega
          go_wp2
          go_ret
          exact ⟨rfl, Y.out⟩
  go_wp2
  go_loopg [11] 30 (fun kx s11 wr => ∃ (j : Nat) (s : St), s11 = .int .i64 j ∧ j ≤ n ∧ j ≤ 30 ∧ 30 - j ≤ kx ∧ Aside (DvIs wr La s j) ∧ Aside (Rdy s) ∧ Aside (Chg (fun _ => False) w wr))
  case atStart => exact ⟨0, _, rfl, Nat.zero_le _, Nat.zero_le _, by omega, Da.out, rdy_new, Y.out⟩
  case round =>
    clear Da Y
    obtain ⟨j, s, rfl, hjn, hj30, hg, Da, RS, Y⟩ := hrel
    have Da : Hid (DvIs wr La s j) := Da
    have RS : Hid (Rdy s) := RS
    have Y : Hid (Chg (fun _ => False) w wr) := Y
    by_cases hlt : j < n
    · by_cases hl3 : j < 30
      · have hjl : j < l.length := by have := HN.out; omega
        obtain ⟨b, o, rfl, hb, C⟩ := HL.out.get j hjl
        obtain ⟨op, hop⟩ : ∃ x, x = l[j] := ⟨_, rfl⟩
        rw [← hop] at C
        have fb : Hid (¬ Foot La b) := fun h => by have := fra.out b h; omega
        have CC : Hid (CellsAt wr b (o + j * 7) (opCells op)) := Y.out.cells C id
        have b7 := bits7 op.n
        have E0 : Hid ((writeS s (op.n % 8) (content op.c)).2 = 0) := (RS.out.write (by omega) (by omega) _).1
        clear C hb hop
        have z1 : (j : Int) < (n : Int) := by omega
        have z0 : (0 : Int) ≤ (j : Int) := by omega
        have r1 : ∀ W, Chg (Foot La) wr W → W.cell? ⟨b, o + j * 7 + 1, none⟩ = some (.int .i64 op.n) := fun W X => X.cell (CC.out 1 _ rfl) fb.out
        have r2 : ∀ W, Chg (Foot La) wr W → W.cell? ⟨b, o + j * 7 + 2, none⟩ = some (.int .i64 op.c) := fun W X => X.cell (CC.out 2 _ rfl) fb.out
        have KD : Hid (Chg (Foot La) wr wr.drew) := (Ext.refl wr).drew.chg _
        go_upto_region 8 with fail
        refine wp_region_held_drew (S := fun W => Chg (Foot La) wr W) (by kernel_rfl) KD.out (fun hHeld => ?_)
        refine wpAnyH_take (i := 0) (oi := _) (v := ?ven0) rfl (by kernel_rfl) (by kernel_rfl) (by kernel_rfl) (fun _ _ _ h => h) (Or.inl ⟨by rfl, ?yen0⟩) (by assumption) ?ren0
        case yen0 => (intro w hSw; go_simp; try with_reducible rfl)
        (try simp only [List.getElem_toArray, List.getElem_cons_succ, List.getElem_cons_zero, Act.put, List.setIfInBounds_toArray, List.set_cons_zero, List.set_cons_succ])
        refine wpAnyH_take (i := 1) (oi := _) (v := ?ven1) rfl (by kernel_rfl) (by kernel_rfl) (by kernel_rfl) (fun _ _ _ h => h) (Or.inl ⟨by rfl, ?yen1⟩) (by assumption) ?ren1
        case yen1 => (intro w hSw; go_simp; try with_reducible rfl)
        (try simp only [List.getElem_toArray, List.getElem_cons_succ, List.getElem_cons_zero, Act.put, List.setIfInBounds_toArray, List.set_cons_zero, List.set_cons_succ])
        refine wpAnyH_take (i := 2) (oi := _) (v := ?ven2) rfl (by kernel_rfl) (by kernel_rfl) (by kernel_rfl) (fun _ _ _ h => h) (Or.inl ⟨by rfl, ?yen2⟩) (by assumption) ?ren2
        case yen2 => (intro w hSw; go_simp; try with_reducible rfl)
        (try simp only [List.getElem_toArray, List.getElem_cons_succ, List.getElem_cons_zero, Act.put, List.setIfInBounds_toArray, List.set_cons_zero, List.set_cons_succ])
        refine wpAnyH_take (i := 3) (oi := _) (v := ?ven3) rfl (by kernel_rfl) (by kernel_rfl) (by kernel_rfl) (fun _ _ _ h => h) (Or.inl ⟨by rfl, ?yen3⟩) (by assumption) ?ren3
        case yen3 => (intro w hSw; go_simp; try with_reducible rfl)
        (try simp only [List.getElem_toArray, List.getElem_cons_succ, List.getElem_cons_zero, Act.put, List.setIfInBounds_toArray, List.set_cons_zero, List.set_cons_succ])
        refine wpAnyH_take (i := 4) (oi := _) (v := ?ven4) rfl (by kernel_rfl) (by kernel_rfl) (by kernel_rfl) (fun _ _ _ h => h) (Or.inl ⟨by rfl, ?yen4⟩) (by assumption) ?ren4
        case yen4 => (intro w hSw; go_simp; try with_reducible rfl)
        (try simp only [List.getElem_toArray, List.getElem_cons_succ, List.getElem_cons_zero, Act.put, List.setIfInBounds_toArray, List.set_cons_zero, List.set_cons_succ])
        refine wpAnyH_take (i := 5) (oi := _) (v := ?ven5) rfl (by kernel_rfl) (by kernel_rfl) (by kernel_rfl) (fun _ _ _ h => h) (Or.inl ⟨by rfl, ?yen5⟩) (by assumption) ?ren5
        case yen5 => (intro w hSw; go_simp; try with_reducible rfl)
        (try simp only [List.getElem_toArray, List.getElem_cons_succ, List.getElem_cons_zero, Act.put, List.setIfInBounds_toArray, List.set_cons_zero, List.set_cons_succ])
        refine wpAnyH_take (i := 6) (oi := _) (v := ?ven6) rfl (by kernel_rfl) (by kernel_rfl) (by kernel_rfl) (fun _ _ _ h => h) (Or.inl ⟨by rfl, ?yen6⟩) (by assumption) ?ren6
        case yen6 => (intro w hSw; go_simp; try with_reducible rfl)
        (try simp only [List.getElem_toArray, List.getElem_cons_succ, List.getElem_cons_zero, Act.put, List.setIfInBounds_toArray, List.set_cons_zero, List.set_cons_succ])
        refine wpAnyH_take (i := 7) (oi := _) (v := ?ven7) rfl (by kernel_rfl) (by kernel_rfl) (by kernel_rfl) (fun _ _ _ h => h) (Or.inl ⟨by rfl, ?yen7⟩) (by assumption) ?ren7
        case yen7 => (intro w hSw; go_simp; try with_reducible rfl)
        (try simp only [List.getElem_toArray, List.getElem_cons_succ, List.getElem_cons_zero, Act.put, List.setIfInBounds_toArray, List.set_cons_zero, List.set_cons_succ])
        refine wpAnyH_take (i := 8) (oi := _) (v := ?ven8) rfl (by kernel_rfl) (by kernel_rfl) (by kernel_rfl) (fun _ _ _ h => h) (Or.inl ⟨by rfl, ?yen8⟩) (by assumption) ?ren8
        case yen8 => (intro w hSw; go_simp; try with_reducible rfl)
        (try simp only [List.getElem_toArray, List.getElem_cons_succ, List.getElem_cons_zero, Act.put, List.setIfInBounds_toArray, List.set_cons_zero, List.set_cons_succ])
        refine wpAnyH_take (i := 9) (oi := _) (v := ?ven9) rfl (by kernel_rfl) (by kernel_rfl) (by kernel_rfl) (fun _ _ _ h => h) (Or.inl ⟨by rfl, ?yen9⟩) (by assumption) ?ren9
        case yen9 => (intro w hSw; go_simp; try with_reducible rfl)
        (try simp only [List.getElem_toArray, List.getElem_cons_succ, List.getElem_cons_zero, Act.put, List.setIfInBounds_toArray, List.set_cons_zero, List.set_cons_succ])
        refine wpAnyH_take (i := 10) (oi := _) (v := ?ven10) rfl (by kernel_rfl) (by kernel_rfl) (by kernel_rfl) (fun _ _ _ h => h) (Or.inl ⟨by rfl, ?yen10⟩) (by assumption) ?ren10
        case yen10 => (intro w hSw; go_simp; try with_reducible rfl)
        (try simp only [List.getElem_toArray, List.getElem_cons_succ, List.getElem_cons_zero, Act.put, List.setIfInBounds_toArray, List.set_cons_zero, List.set_cons_succ])
        refine wpAnyH_take (i := 11) (oi := _) (v := ?ven11) rfl (by kernel_rfl) (by kernel_rfl) (by kernel_rfl) (fun _ _ _ h => h) (Or.inl ⟨by rfl, ?yen11⟩) (by assumption) ?ren11
        case yen11 => (intro w hSw; go_simp; try with_reducible rfl)
        (try simp only [List.getElem_toArray, List.getElem_cons_succ, List.getElem_cons_zero, Act.put, List.setIfInBounds_toArray, List.set_cons_zero, List.set_cons_succ])
        refine wpAnyH_ready (rs := [12]) (by kernel_rfl) (by simp) ?_
        refine AllReadyH.cons (o := _) rfl (fun K hK => ?_) AllReadyH.nil
        (try simp only [List.getElem_toArray, List.getElem_cons_succ, List.getElem_cons_zero])
        go_simp
        refine (content_st (op.c) _).mono ?_
        rintro e wA ⟨rfl, LC, XA⟩
        have XA : Hid (Chg (fun _ => False) wr wA) := ((Ext.refl wr).drew.chg _).trans XA (fun _ _ h => h)
        have LC := Lib.hid LC
        have gp : Hid (wr.drew.heap.size ≠ La.p) := fun e => by have := Da.out.lt _ (.inl rfl); simp at e; omega
        refine hK.out _ _ ?_ (fun hHeld => ?_)
        · exact XA.out.mono (fun _ _ h => h.elim)
        clear hK K
        (try simp only [List.getElem_toArray, List.getElem_cons_succ, List.getElem_cons_zero, Act.put, List.setIfInBounds_toArray, List.set_cons_zero, List.set_cons_succ])
        refine wpAnyH_ready (rs := [13]) (by kernel_rfl) (by simp) ?_
        refine AllReadyH.cons (o := _) rfl (fun K hK => ?_) AllReadyH.nil
        (try simp only [List.getElem_toArray, List.getElem_cons_succ, List.getElem_cons_zero])
        go_simp
        have qw := write_st (cb := 512) (k := op.n % 8) (Da.out.ext XA.out) (by omega) (wf_mod8 _) LC.out gp.out (full_content (op.c))
        rw [E0.out] at qw
        refine qw.mono ?_
        clear qw
        rintro e wB ⟨rfl, DB, XB⟩
        have XB : Hid (Chg (Foot La) wr wB) := (XA.out.mono (fun _ _ h => h.elim)).trans XB (fun _ _ h => h)
        have DB : Hid (DvIs wB La (writeS (s) (op.n % 8) (content (op.c))).1 (j + 1)) := DB
        refine hK.out _ _ ?_ (fun hHeld => ?_)
        · exact XB.out
        clear hK K
        (try simp only [List.getElem_toArray, List.getElem_cons_succ, List.getElem_cons_zero, Act.put, List.setIfInBounds_toArray, List.set_cons_zero, List.set_cons_succ])
        refine wpAnyH_take (i := 14) (oi := _) (v := ?ven14) rfl (by kernel_rfl) (by kernel_rfl) (by kernel_rfl) (fun _ _ _ h => h) (Or.inl ⟨by rfl, ?yen14⟩) (by assumption) ?ren14
        case yen14 => (intro w hSw; go_simp; try with_reducible rfl)
        (try simp only [List.getElem_toArray, List.getElem_cons_succ, List.getElem_cons_zero, Act.put, List.setIfInBounds_toArray, List.set_cons_zero, List.set_cons_succ])
        refine wpAnyH_done (by kernel_rfl) ?_ _
        have WS : Hid (Rdy (writeS s (op.n % 8) (content op.c)).1) := (RS.out.write (by omega) (by omega) _).2
        clear r1 r2 CC
        go_wp2
        go_roundg (30 - (j + 1))
        case measure => omega
        case rel => exact ⟨j + 1, _, by go_num, by omega, by omega, Nat.le_refl _, DB.out, WS.out, Y.out.trans XB.out (fun i hi h => absurd hi (by have := fra.out i h; omega))⟩
      · have hd : decide ((j : Int) < 30) = false := by simp; omega
        go_wp2_with fail
        go_meet
        exact ⟨s, Da.out.mono (by omega), RS.out, Y.out⟩
    · go_wp2_with fail
      go_meet
      exact ⟨s, Da.out.mono (by omega), RS.out, Y.out⟩
end Go.Proofs.Ytedcpmkfanlicaa
