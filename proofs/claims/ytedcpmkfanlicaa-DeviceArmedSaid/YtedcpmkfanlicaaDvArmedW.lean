/- DeviceArmed's walk. -/
import Derived.Test.YtedcpmkfanlicaaDvArm
import Derived.Deep.RegionHeld3
import Derived.Deep.LoopGhost
import Derived.Deep.CutBlock
import Derived.Deep.DeepCutAuto
set_option linter.unusedVariables false
set_option linter.unusedSimpArgs false
namespace Go.Proofs.Ytedcpmkfanlicaa
open Go Go.RowKit Go.Sort Go.Lib Go.Maps Go.Deep
set_option maxHeartbeats 4000000 in
set_option maxRecDepth 100000 in
theorem deviceArmed_any (w : World) (a : Option Addr) (cap : Nat) (l : List OpV) (nn mask torn bytes : Int) (HL : OpsIn w a l) (hnn : wfK nn) (hm : u64 mask) (ht : wfK torn) (hb : wfK bytes) :
    Calls Try.prog 6 #[.slice a l.length cap, .int .i64 nn, .int .u64 mask, .int .i64 torn, .int .i64 bytes] w fun e w' => e = .returned (.bool true) ∧ Chg (fun _ => False) w w' := by
  have mixed := Try.mixed
  have S0 := Lib.hid (shown_any w)
  have hsm : l.length ≤ 9223372036854775807 := HL.small
  have HL := Lib.hid HL
  have HM := Lib.hid hm
  clear hnn ht hb hm
  generalize hn : l.length = n at hsm ⊢
  have HN := Lib.hid hn
  clear hn
  obtain ⟨N, hN, hN1, hN2⟩ : ∃ N : Nat, 1 + nn % 32 = (N : Int) ∧ 1 ≤ N ∧ N ≤ 32 := ⟨(1 + nn % 32).toNat, by omega, by omega, by omega⟩
  have b31 := bits31 nn
  have eN : IntKind.i64.wrap (1 + nn % 32) = (N : Int) := by rw [hN]; exact wrap_in _ _ (by omega) (by omega) rfl
  clear hN
  go_enter Try.func6, Try.ntmps6
  go_wp2_with fail
  refine S0.out.mono ?_
  rintro e w0 ⟨rfl, Y0⟩
  have Y : Hid (Chg (fun _ => False) w w0) := Y0
  clear Y0 S0
  have q := Lib.hid (new_st 8 w0)
  go_wp2_with fail
  refine q.out.mono ?_
  rintro e w1 ⟨rfl, DD, X⟩
  obtain ⟨La, hL⟩ : ∃ L : Loc, L = ⟨w0.heap.size + 2, w0.heap.size, w0.heap.size + 1⟩ := ⟨_, rfl⟩
  have eL : w0.heap.size + 2 = La.p := by rw [hL]
  have fka : Hid (∀ i, Foot La i → w0.heap.size ≤ i) := by rw [hL]; rintro i (rfl | rfl | rfl) <;> (simp only; omega)
  have fra : Hid (∀ i, Foot La i → w.heap.size ≤ i) := fun i h => by have := Y.out.size; have := fka.out i h; omega
  have Da : Hid (DvIs w1 La (newS 8) 0) := by rw [hL]; exact DD
  have Y : Hid (Chg (fun _ => False) w w1) := Y.out.trans X (fun i hi h => h.elim)
  rw [eL]
  clear q X DD hL eL fka
  have q := Lib.hid (new_st 8 w1)
  go_wp2_with fail
  refine q.out.mono ?_
  rintro e w2 ⟨rfl, DD, X⟩
  obtain ⟨Lb, hL⟩ : ∃ L : Loc, L = ⟨w1.heap.size + 2, w1.heap.size, w1.heap.size + 1⟩ := ⟨_, rfl⟩
  have eL : w1.heap.size + 2 = Lb.p := by rw [hL]
  have fkb : Hid (∀ i, Foot Lb i → w1.heap.size ≤ i) := by rw [hL]; rintro i (rfl | rfl | rfl) <;> (simp only; omega)
  have frb : Hid (∀ i, Foot Lb i → w.heap.size ≤ i) := fun i h => by have := Y.out.size; have := fkb.out i h; omega
  have Db : Hid (DvIs w2 Lb (newS 8) 0) := by rw [hL]; exact DD
  have djab : Hid (∀ i, Foot La i → ¬ Foot Lb i) := fun i h h' => by have := fkb.out i h'; have := Da.out.lt i h; omega
  have djba : Hid (∀ i, Foot Lb i → ¬ Foot La i) := fun i h h' => djab.out i h' h
  have Da := Lib.hid (Da.out.chg X (fun _ _ h => h))
  have Y : Hid (Chg (fun _ => False) w w2) := Y.out.trans X (fun i hi h => h.elim)
  rw [eL]
  clear q X DD hL eL fkb
  have AP : Hid (ArmP 0 N mask torn bytes (armS (newS 8) N mask torn bytes) (newS 8)) := armP_new N hN1 mask torn bytes
  have q := arm_st Da.out N mask torn bytes (by omega) HM.out
  have q := Lib.hid q
  go_wp2_with fail
  refine q.out.mono ?_
  rintro e w3 ⟨rfl, DD, X⟩
  have Da : Hid (DvIs w3 La (armS (newS 8) N mask torn bytes) (0)) := DD
  have Db := Lib.hid (Db.out.chg X djba.out)
  have Y : Hid (Chg (fun _ => False) w w3) := Y.out.trans X (fun i hi h => absurd hi (by have := fra.out i h; omega))
  clear q X DD
  clear b31 eN
  generalize armS (newS 8) N mask torn bytes = s0 at Da AP
  generalize newS 8 = t0 at Db AP
  go_upto_block 0 with fail
  go_cut [14] (fun s14 wx => ∃ (j : Nat) (sa sb : St), Aside (DvIs wx La sa 60) ∧ Aside (DvIs wx Lb sb 60) ∧ Aside (ArmP j N mask torn bytes sa sb) ∧ Aside (Chg (fun _ => False) w wx))
  case rest =>
    clear Da Db Y HL HN hsm AP
    obtain ⟨j0, sa, sb, Da, Db, AP, Y⟩ := hcut
    have Da : Hid (DvIs wc La sa 60) := Da
    have Db : Hid (DvIs wc Lb sb 60) := Db
    have AP : Hid (ArmP j0 N mask torn bytes sa sb) := AP
    have Y : Hid (Chg (fun _ => False) w wc) := Y
    obtain ⟨w60, hwc⟩ : ∃ W, W = wc := ⟨_, rfl⟩
    rw [← hwc] at Da Db Y ⊢
    clear hwc
    have q := start_st Da.out
    have q := Lib.hid q
    go_wp2_with fail
    refine q.out.mono ?_
    rintro e w61 ⟨rfl, DD, X⟩
    have Da : Hid (DvIs w61 La (startS sa) (60)) := DD
    have Db := Lib.hid (Db.out.chg X djba.out)
    have Y : Hid (Chg (fun _ => False) w w61) := Y.out.trans X (fun i hi h => absurd hi (by have := fra.out i h; omega))
    clear q X DD
    have q := start_st Db.out
    have q := Lib.hid q
    go_wp2_with fail
    refine q.out.mono ?_
    rintro e w62 ⟨rfl, DD, X⟩
    have Db : Hid (DvIs w62 Lb (startS sb) (60)) := DD
    have Da := Lib.hid (Da.out.chg X djab.out)
    have Y : Hid (Chg (fun _ => False) w w62) := Y.out.trans X (fun i hi h => absurd hi (by have := frb.out i h; omega))
    clear q X DD
    obtain ⟨ta, hsa⟩ : ∃ q, q = startS sa := ⟨_, rfl⟩
    obtain ⟨tb, hsb⟩ : ∃ q, q = startS sb := ⟨_, rfl⟩
    have MA : Hid (∀ j : Nat, j < 8 → mayS ta j = 0) := fun j hj => mayS_up (by rw [hsa]; rfl) (by rw [hsa]; exact AP.out.na) j hj
    have MB : Hid (∀ j : Nat, j < 8 → mayS tb j = 0) := fun j hj => mayS_up (by rw [hsb]; rfl) (by rw [hsb]; exact AP.out.nb) j hj
    have NE : Hid (∀ j : Nat, newest tb.G tb.lo j = newest ta.G ta.lo j) := fun j => by
      rw [hsa, hsb]
      show newest sb.G sb.lo j = newest sa.G sa.lo j
      rw [AP.out.G, AP.out.lo]
    rw [← hsa] at Da
    rw [← hsb] at Db
    clear hsa hsb AP HM
    go_wp2
    go_loopg [17] 8 (fun kx s17 wr => ∃ j : Nat, s17 = .int .i64 j ∧ j ≤ 8 ∧ 8 - j ≤ kx ∧ Aside (DvIs wr La ta 60) ∧ Aside (DvIs wr Lb tb 60) ∧ Aside (Chg (fun _ => False) w wr))
    case atStart => exact ⟨0, rfl, by omega, by omega, Da.out, Db.out, Y.out⟩
    case round =>
      clear Da Db Y
      obtain ⟨j, rfl, hj, hg, Da, Db, Y⟩ := hrel
      have Da : Hid (DvIs wr La ta 60) := Da
      have Db : Hid (DvIs wr Lb tb 60) := Db
      have Y : Hid (Chg (fun _ => False) w wr) := Y
      obtain ⟨w40, hwc⟩ : ∃ W, W = wr := ⟨_, rfl⟩
      rw [← hwc] at Da Db Y ⊢
      clear hwc
      by_cases hlt : j < 8
      · have z1 : (j : Int) < 8 := by omega
        have q := Lib.hid (read_st Da.out (wf_nat (by omega)) (MA.out j hlt))
        go_wp2_with fail
        refine q.out.mono ?_
        rintro e w41 ⟨rfl, B, X⟩
        have R0 : CellsAt w41 w40.heap.size 0 (blkCells (newest ta.G ta.lo j)) := cellsAt_blk B
        have R0 := Lib.hid R0
        have Da := Lib.hid (Da.out.chg X (fun _ _ h => h))
        have Db := Lib.hid (Db.out.chg X (fun _ _ h => h))
        have Y : Hid (Chg (fun _ => False) w w41) := Y.out.trans X (fun i hi h => h.elim)
        clear q X B
        have q := Lib.hid (read_st Db.out (wf_nat (by omega)) (MB.out j hlt))
        go_wp2_with fail
        refine q.out.mono ?_
        rintro e w42 ⟨rfl, B, X⟩
        have R1 : CellsAt w42 w41.heap.size 0 (blkCells (newest tb.G tb.lo j)) := cellsAt_blk B
        rw [NE.out j] at R1
        have R1 := Lib.hid R1
        have Da := Lib.hid (Da.out.chg X (fun _ _ h => h))
        have Db := Lib.hid (Db.out.chg X (fun _ _ h => h))
        have R0 := Lib.hid (X.cells R0.out id)
        have Y : Hid (Chg (fun _ => False) w w42) := Y.out.trans X (fun i hi h => h.elim)
        clear q X B
        have fu : Hid (Full (newest ta.G ta.lo j)) := Da.out.fullN j
        have cv0 : (convert 31 9 (.slice (some ⟨w40.heap.size, 0, none⟩) 512 512)).run Try.prog w42 = .ok (.string (strB (newest ta.G ta.lo j))) w42 := conv_blk _ fu.out.1 _ _ 0 512 R0.out
        have cv1 : (convert 31 9 (.slice (some ⟨w41.heap.size, 0, none⟩) 512 512)).run Try.prog w42 = .ok (.string (strB (newest ta.G ta.lo j))) w42 := conv_blk _ fu.out.1 _ _ 0 512 R1.out
        clear R0 R1 fu
        generalize strB (newest ta.G ta.lo j) = sv at cv0 cv1
        go_wp2
        go_roundg (8 - (j + 1))
        case measure => omega
        case rel => exact ⟨j + 1, by go_num, by omega, Nat.le_refl _, Da.out, Db.out, Y.out⟩
      · have z1 : ¬ (j : Int) < 8 := by omega
        go_wp2
        go_ret
        exact ⟨rfl, Y.out⟩
  go_wp2
  go_loopg [14] 60 (fun kx s14 wr => ∃ (j : Nat) (sa sb : St), s14 = .int .i64 j ∧ j ≤ n ∧ j ≤ 60 ∧ 60 - j ≤ kx ∧ Aside (DvIs wr La sa j) ∧ Aside (DvIs wr Lb sb j) ∧ Aside (ArmP j N mask torn bytes sa sb) ∧ Aside (Chg (fun _ => False) w wr))
  case atStart => exact ⟨0, _, _, rfl, Nat.zero_le _, Nat.zero_le _, by omega, Da.out, Db.out, AP.out, Y.out⟩
  case round =>
    clear Da Db Y AP
    obtain ⟨j, sa, sb, rfl, hjn, hj60, hg, Da, Db, AP, Y⟩ := hrel
    have Da : Hid (DvIs wr La sa j) := Da
    have Db : Hid (DvIs wr Lb sb j) := Db
    have AP : Hid (ArmP j N mask torn bytes sa sb) := AP
    have Y : Hid (Chg (fun _ => False) w wr) := Y
    by_cases hlt : j < n
    · by_cases hl6 : j < 60
      · have hjl : j < l.length := by have := HN.out; omega
        obtain ⟨b, o, rfl, hb, C⟩ := HL.out.get j hjl
        obtain ⟨op, hop⟩ : ∃ x, x = l[j] := ⟨_, rfl⟩
        rw [← hop] at C
        have fa : Hid (¬ Foot La b) := fun h => by have := fra.out b h; omega
        have fb : Hid (¬ Foot Lb b) := fun h => by have := frb.out b h; omega
        have CC : Hid (CellsAt wr b (o + j * 7) (opCells op)) := Y.out.cells C id
        have b15 := bits15 op.n
        have c0 : wr.cell? ⟨b, o + j * 7, none⟩ = some (.int .i64 op.kind) := CC.out 0 _ rfl
        clear C hb hop
        have z1 : (j : Int) < (n : Int) := by omega
        have z0 : (0 : Int) ≤ (j : Int) := by omega
        have ej : IntKind.i64.wrap ((j : Int) + 1) = (j : Int) + 1 := wrap_in _ _ (by omega) (by omega) rfl
        have KE : Hid (op.kind = 2 ∨ (¬ op.kind = 2 ∧ (op.kind == 2) = false)) := by by_cases h : op.kind = 2; exact .inl h; exact .inr ⟨h, by simpa using h⟩
        have SA : Hid (op.kind = 2 → ∀ s, stepA op s = flushS s) := fun h s => if_pos h
        have SB : Hid (¬ op.kind = 2 → ∀ s, stepA op s = writeS s (op.n % 16) (content op.c)) := fun h s => if_neg h
        generalize op.kind = kd at c0 KE SA SB
        go_upto_if 55 with fail
        go_cut [15] (fun s15 wx => s15 = .int .i64 (stepA op sa).2 ∧ Aside (DvIs wx La (stepA op sa).1 (j + 1)) ∧ Aside (DvIs wx Lb sb j) ∧ Aside (Chg (fun i => Foot La i) wr wx))
        case first =>
          rcases KE.out with k2 | ⟨k2, k2'⟩
          · have st := SA.out k2 sa
            subst k2
            have st := Lib.hid st
            have q := Lib.hid (flush_st Da.out (by omega))
            go_wp2_with fail
            refine q.out.mono ?_
            rintro e wB ⟨rfl, DB, XB⟩
            have DB := Lib.hid DB
            have XB := Lib.hid XB
            clear q
            go_wp2_with fail
            go_meet
            rw [st.out]
            exact ⟨rfl, DB.out, Db.out.chg XB.out djba.out, XB.out⟩
          · have st := SB.out k2 sa
            have st := Lib.hid st
            have r1 : ∀ W, Chg (Foot La) wr W → W.cell? ⟨b, o + j * 7 + 1, none⟩ = some (.int .i64 op.n) := fun W X => X.cell (CC.out 1 _ rfl) fa.out
            have r2 : ∀ W, Chg (Foot La) wr W → W.cell? ⟨b, o + j * 7 + 2, none⟩ = some (.int .i64 op.c) := fun W X => X.cell (CC.out 2 _ rfl) fa.out
            have KD : Hid (Chg (Foot La) wr wr.drew) := (Ext.refl wr).drew.chg _
            go_upto_region 15 with fail
            refine wp_region_held_drew (S := fun W => Chg (Foot La) wr W) (by kernel_rfl) KD.out (fun hHeld => ?_)
            refine wpAnyH_take (i := 0) (oi := _) (v := ?vaa0) rfl (by kernel_rfl) (by kernel_rfl) (by kernel_rfl) (fun _ _ _ h => h) (Or.inl ⟨by rfl, ?yaa0⟩) (by assumption) ?raa0
            case yaa0 => (intro w hSw; go_simp; try with_reducible rfl)
            (try simp only [List.getElem_toArray, List.getElem_cons_succ, List.getElem_cons_zero, Act.put, List.setIfInBounds_toArray, List.set_cons_zero, List.set_cons_succ])
            refine wpAnyH_take (i := 1) (oi := _) (v := ?vaa1) rfl (by kernel_rfl) (by kernel_rfl) (by kernel_rfl) (fun _ _ _ h => h) (Or.inl ⟨by rfl, ?yaa1⟩) (by assumption) ?raa1
            case yaa1 => (intro w hSw; go_simp; try with_reducible rfl)
            (try simp only [List.getElem_toArray, List.getElem_cons_succ, List.getElem_cons_zero, Act.put, List.setIfInBounds_toArray, List.set_cons_zero, List.set_cons_succ])
            refine wpAnyH_take (i := 2) (oi := _) (v := ?vaa2) rfl (by kernel_rfl) (by kernel_rfl) (by kernel_rfl) (fun _ _ _ h => h) (Or.inl ⟨by rfl, ?yaa2⟩) (by assumption) ?raa2
            case yaa2 => (intro w hSw; go_simp; try with_reducible rfl)
            (try simp only [List.getElem_toArray, List.getElem_cons_succ, List.getElem_cons_zero, Act.put, List.setIfInBounds_toArray, List.set_cons_zero, List.set_cons_succ])
            refine wpAnyH_take (i := 3) (oi := _) (v := ?vaa3) rfl (by kernel_rfl) (by kernel_rfl) (by kernel_rfl) (fun _ _ _ h => h) (Or.inl ⟨by rfl, ?yaa3⟩) (by assumption) ?raa3
            case yaa3 => (intro w hSw; go_simp; try with_reducible rfl)
            (try simp only [List.getElem_toArray, List.getElem_cons_succ, List.getElem_cons_zero, Act.put, List.setIfInBounds_toArray, List.set_cons_zero, List.set_cons_succ])
            refine wpAnyH_take (i := 4) (oi := _) (v := ?vaa4) rfl (by kernel_rfl) (by kernel_rfl) (by kernel_rfl) (fun _ _ _ h => h) (Or.inl ⟨by rfl, ?yaa4⟩) (by assumption) ?raa4
            case yaa4 => (intro w hSw; go_simp; try with_reducible rfl)
            (try simp only [List.getElem_toArray, List.getElem_cons_succ, List.getElem_cons_zero, Act.put, List.setIfInBounds_toArray, List.set_cons_zero, List.set_cons_succ])
            refine wpAnyH_take (i := 5) (oi := _) (v := ?vaa5) rfl (by kernel_rfl) (by kernel_rfl) (by kernel_rfl) (fun _ _ _ h => h) (Or.inl ⟨by rfl, ?yaa5⟩) (by assumption) ?raa5
            case yaa5 => (intro w hSw; go_simp; try with_reducible rfl)
            (try simp only [List.getElem_toArray, List.getElem_cons_succ, List.getElem_cons_zero, Act.put, List.setIfInBounds_toArray, List.set_cons_zero, List.set_cons_succ])
            refine wpAnyH_take (i := 6) (oi := _) (v := ?vaa6) rfl (by kernel_rfl) (by kernel_rfl) (by kernel_rfl) (fun _ _ _ h => h) (Or.inl ⟨by rfl, ?yaa6⟩) (by assumption) ?raa6
            case yaa6 => (intro w hSw; go_simp; try with_reducible rfl)
            (try simp only [List.getElem_toArray, List.getElem_cons_succ, List.getElem_cons_zero, Act.put, List.setIfInBounds_toArray, List.set_cons_zero, List.set_cons_succ])
            refine wpAnyH_take (i := 7) (oi := _) (v := ?vaa7) rfl (by kernel_rfl) (by kernel_rfl) (by kernel_rfl) (fun _ _ _ h => h) (Or.inl ⟨by rfl, ?yaa7⟩) (by assumption) ?raa7
            case yaa7 => (intro w hSw; go_simp; try with_reducible rfl)
            (try simp only [List.getElem_toArray, List.getElem_cons_succ, List.getElem_cons_zero, Act.put, List.setIfInBounds_toArray, List.set_cons_zero, List.set_cons_succ])
            refine wpAnyH_take (i := 8) (oi := _) (v := ?vaa8) rfl (by kernel_rfl) (by kernel_rfl) (by kernel_rfl) (fun _ _ _ h => h) (Or.inl ⟨by rfl, ?yaa8⟩) (by assumption) ?raa8
            case yaa8 => (intro w hSw; go_simp; try with_reducible rfl)
            (try simp only [List.getElem_toArray, List.getElem_cons_succ, List.getElem_cons_zero, Act.put, List.setIfInBounds_toArray, List.set_cons_zero, List.set_cons_succ])
            refine wpAnyH_take (i := 9) (oi := _) (v := ?vaa9) rfl (by kernel_rfl) (by kernel_rfl) (by kernel_rfl) (fun _ _ _ h => h) (Or.inl ⟨by rfl, ?yaa9⟩) (by assumption) ?raa9
            case yaa9 => (intro w hSw; go_simp; try with_reducible rfl)
            (try simp only [List.getElem_toArray, List.getElem_cons_succ, List.getElem_cons_zero, Act.put, List.setIfInBounds_toArray, List.set_cons_zero, List.set_cons_succ])
            refine wpAnyH_take (i := 10) (oi := _) (v := ?vaa10) rfl (by kernel_rfl) (by kernel_rfl) (by kernel_rfl) (fun _ _ _ h => h) (Or.inl ⟨by rfl, ?yaa10⟩) (by assumption) ?raa10
            case yaa10 => (intro w hSw; go_simp; try with_reducible rfl)
            (try simp only [List.getElem_toArray, List.getElem_cons_succ, List.getElem_cons_zero, Act.put, List.setIfInBounds_toArray, List.set_cons_zero, List.set_cons_succ])
            refine wpAnyH_take (i := 11) (oi := _) (v := ?vaa11) rfl (by kernel_rfl) (by kernel_rfl) (by kernel_rfl) (fun _ _ _ h => h) (Or.inl ⟨by rfl, ?yaa11⟩) (by assumption) ?raa11
            case yaa11 => (intro w hSw; go_simp; try with_reducible rfl)
            (try simp only [List.getElem_toArray, List.getElem_cons_succ, List.getElem_cons_zero, Act.put, List.setIfInBounds_toArray, List.set_cons_zero, List.set_cons_succ])
            refine wpAnyH_ready (rs := [12]) (by kernel_rfl) (by simp) ?_
            refine AllReadyH.cons (o := _) rfl (fun K hK => ?_) AllReadyH.nil
            (try simp only [List.getElem_toArray, List.getElem_cons_succ, List.getElem_cons_zero])
            go_simp
            refine (content_st (op.c) _).mono ?_
            rintro e wA ⟨rfl, LC, XA⟩
            have XA : Hid (Chg (fun _ => False) wr wA) := ((Ext.refl wr).drew.chg _).trans XA (fun _ _ h => h)
            have LC := Lib.hid LC
            have gp : Hid (wr.drew.heap.size ≠ La.p) := fun e => by have := Da.out.lt _ (.inl rfl); simp at e; omega
            refine hK.out _ _ ?_ (fun hHeld => ?_)
            · exact XA.out.mono (fun _ _ h => h.elim)
            clear hK K
            (try simp only [List.getElem_toArray, List.getElem_cons_succ, List.getElem_cons_zero, Act.put, List.setIfInBounds_toArray, List.set_cons_zero, List.set_cons_succ])
            refine wpAnyH_ready (rs := [13]) (by kernel_rfl) (by simp) ?_
            refine AllReadyH.cons (o := _) rfl (fun K hK => ?_) AllReadyH.nil
            (try simp only [List.getElem_toArray, List.getElem_cons_succ, List.getElem_cons_zero])
            go_simp
            have qw := write_st (cb := 512) (k := op.n % 16) (Da.out.ext XA.out) (by omega) (wf_mod16 _) LC.out gp.out (full_content (op.c))
            refine qw.mono ?_
            clear qw
            rintro e wB ⟨rfl, DB, XB⟩
            have XB : Hid (Chg (Foot La) wr wB) := (XA.out.mono (fun _ _ h => h.elim)).trans XB (fun _ _ h => h)
            have DB : Hid (DvIs wB La (writeS (sa) (op.n % 16) (content (op.c))).1 (j + 1)) := DB
            refine hK.out _ _ ?_ (fun hHeld => ?_)
            · exact XB.out
            clear hK K
            (try simp only [List.getElem_toArray, List.getElem_cons_succ, List.getElem_cons_zero, Act.put, List.setIfInBounds_toArray, List.set_cons_zero, List.set_cons_succ])
            refine wpAnyH_take (i := 14) (oi := _) (v := ?vaa14) rfl (by kernel_rfl) (by kernel_rfl) (by kernel_rfl) (fun _ _ _ h => h) (Or.inl ⟨by rfl, ?yaa14⟩) (by assumption) ?raa14
            case yaa14 => (intro w hSw; go_simp; try with_reducible rfl)
            (try simp only [List.getElem_toArray, List.getElem_cons_succ, List.getElem_cons_zero, Act.put, List.setIfInBounds_toArray, List.set_cons_zero, List.set_cons_succ])
            refine wpAnyH_done (by kernel_rfl) ?_ _
            have DB := Lib.hid DB
            clear r1 r2
            go_wp2_with fail
            go_meet
            rw [st.out]
            exact ⟨rfl, DB.out, Db.out.chg XB.out djba.out, XB.out⟩
        case rest =>
          clear Da Db
          obtain ⟨rfl, Da, Db, X1⟩ := hcut
          have Da : Hid (DvIs wc La (stepA op sa).1 (j + 1)) := Da
          have Db : Hid (DvIs wc Lb sb j) := Db
          have X1 : Hid (Chg (fun i => Foot La i) wr wc) := X1
          have Y : Hid (Chg (fun _ => False) w wc) := Y.out.trans X1.out (fun i hi h => absurd hi (by have := fra.out i h; omega))
          have CC : Hid (CellsAt wc b (o + j * 7) (opCells op)) := X1.out.cells CC.out fa.out
          have c0 : wc.cell? ⟨b, o + j * 7, none⟩ = some (.int .i64 kd) := X1.out.cell c0 fa.out
          clear X1
          obtain ⟨w20, hwc⟩ : ∃ W, W = wc := ⟨_, rfl⟩
          rw [← hwc] at Da Db Y CC c0 ⊢
          clear hwc
          by_cases hN : j + 1 = N
          · obtain ⟨f1, f2⟩ := AP.out.falls hN op
            have FF := Lib.hid f2
            clear f2
            rw [f1] at ⊢
            clear f1 c0
            have hk : (j : Int) + 1 = (N : Int) := by omega
            have q := crash_st Db.out (by omega) mask torn bytes HM.out
            have q := Lib.hid q
            go_wp2_with fail
            refine q.out.mono ?_
            rintro e w21 ⟨rfl, DD, X⟩
            have Db : Hid (DvIs w21 Lb (crashS sb mask torn bytes) (j)) := DD
            have Da := Lib.hid (Da.out.chg X djab.out)
            have Y : Hid (Chg (fun _ => False) w w21) := Y.out.trans X (fun i hi h => absurd hi (by have := frb.out i h; omega))
            clear q X DD
            clear hk
            go_wp2
            go_roundg (60 - (j + 1))
            case measure => omega
            case rel => exact ⟨j + 1, _, _, by go_num, by omega, by omega, Nat.le_refl _, Da.out, Db.out.mono (by omega), FF.out, Y.out⟩
          · obtain ⟨f1, f2⟩ := AP.out.step hN op
            have FF := Lib.hid f2
            have SE := Lib.hid f1
            clear f1 f2
            have hk : ¬ (j : Int) + 1 = (N : Int) := by omega
            have hk' : ((j : Int) + 1 == (N : Int)) = false := by simpa using hk
            generalize hta : (stepA op sa).1 = ta at Da FF
            generalize hra : (stepA op sa).2 = ra at SE
            clear hta hra AP
            go_upto_if 88 with fail
            go_cut [16] (fun s16 wx => s16 = .int .i64 (stepA op sb).2 ∧ Aside (DvIs wx La ta (j + 1)) ∧ Aside (DvIs wx Lb (stepA op sb).1 (j + 1)) ∧ Aside (Chg (fun i => Foot Lb i) w20 wx))
            case first =>
              rcases KE.out with k2 | ⟨k2, k2'⟩
              · have st := SA.out k2 sb
                subst k2
                have st := Lib.hid st
                have q := Lib.hid (flush_st Db.out (by omega))
                go_wp2_with fail
                refine q.out.mono ?_
                rintro e wB ⟨rfl, DB, XB⟩
                have DB := Lib.hid DB
                have XB := Lib.hid XB
                clear q
                go_wp2_with fail
                go_meet
                rw [st.out]
                exact ⟨rfl, Da.out.chg XB.out djab.out, DB.out, XB.out⟩
              · have st := SB.out k2 sb
                have st := Lib.hid st
                have r1 : ∀ W, Chg (Foot Lb) w20 W → W.cell? ⟨b, o + j * 7 + 1, none⟩ = some (.int .i64 op.n) := fun W X => X.cell (CC.out 1 _ rfl) fb.out
                have r2 : ∀ W, Chg (Foot Lb) w20 W → W.cell? ⟨b, o + j * 7 + 2, none⟩ = some (.int .i64 op.c) := fun W X => X.cell (CC.out 2 _ rfl) fb.out
                have KD : Hid (Chg (Foot Lb) w20 w20.drew) := (Ext.refl w20).drew.chg _
                go_upto_region 22 with fail
                refine wp_region_held_drew (S := fun W => Chg (Foot Lb) w20 W) (by kernel_rfl) KD.out (fun hHeld => ?_)
                refine wpAnyH_take (i := 0) (oi := _) (v := ?vab0) rfl (by kernel_rfl) (by kernel_rfl) (by kernel_rfl) (fun _ _ _ h => h) (Or.inl ⟨by rfl, ?yab0⟩) (by assumption) ?rab0
                case yab0 => (intro w hSw; go_simp; try with_reducible rfl)
                (try simp only [List.getElem_toArray, List.getElem_cons_succ, List.getElem_cons_zero, Act.put, List.setIfInBounds_toArray, List.set_cons_zero, List.set_cons_succ])
                refine wpAnyH_take (i := 1) (oi := _) (v := ?vab1) rfl (by kernel_rfl) (by kernel_rfl) (by kernel_rfl) (fun _ _ _ h => h) (Or.inl ⟨by rfl, ?yab1⟩) (by assumption) ?rab1
                case yab1 => (intro w hSw; go_simp; try with_reducible rfl)
                (try simp only [List.getElem_toArray, List.getElem_cons_succ, List.getElem_cons_zero, Act.put, List.setIfInBounds_toArray, List.set_cons_zero, List.set_cons_succ])
                refine wpAnyH_take (i := 2) (oi := _) (v := ?vab2) rfl (by kernel_rfl) (by kernel_rfl) (by kernel_rfl) (fun _ _ _ h => h) (Or.inl ⟨by rfl, ?yab2⟩) (by assumption) ?rab2
                case yab2 => (intro w hSw; go_simp; try with_reducible rfl)
                (try simp only [List.getElem_toArray, List.getElem_cons_succ, List.getElem_cons_zero, Act.put, List.setIfInBounds_toArray, List.set_cons_zero, List.set_cons_succ])
                refine wpAnyH_take (i := 3) (oi := _) (v := ?vab3) rfl (by kernel_rfl) (by kernel_rfl) (by kernel_rfl) (fun _ _ _ h => h) (Or.inl ⟨by rfl, ?yab3⟩) (by assumption) ?rab3
                case yab3 => (intro w hSw; go_simp; try with_reducible rfl)
                (try simp only [List.getElem_toArray, List.getElem_cons_succ, List.getElem_cons_zero, Act.put, List.setIfInBounds_toArray, List.set_cons_zero, List.set_cons_succ])
                refine wpAnyH_take (i := 4) (oi := _) (v := ?vab4) rfl (by kernel_rfl) (by kernel_rfl) (by kernel_rfl) (fun _ _ _ h => h) (Or.inl ⟨by rfl, ?yab4⟩) (by assumption) ?rab4
                case yab4 => (intro w hSw; go_simp; try with_reducible rfl)
                (try simp only [List.getElem_toArray, List.getElem_cons_succ, List.getElem_cons_zero, Act.put, List.setIfInBounds_toArray, List.set_cons_zero, List.set_cons_succ])
                refine wpAnyH_take (i := 5) (oi := _) (v := ?vab5) rfl (by kernel_rfl) (by kernel_rfl) (by kernel_rfl) (fun _ _ _ h => h) (Or.inl ⟨by rfl, ?yab5⟩) (by assumption) ?rab5
                case yab5 => (intro w hSw; go_simp; try with_reducible rfl)
                (try simp only [List.getElem_toArray, List.getElem_cons_succ, List.getElem_cons_zero, Act.put, List.setIfInBounds_toArray, List.set_cons_zero, List.set_cons_succ])
                refine wpAnyH_take (i := 6) (oi := _) (v := ?vab6) rfl (by kernel_rfl) (by kernel_rfl) (by kernel_rfl) (fun _ _ _ h => h) (Or.inl ⟨by rfl, ?yab6⟩) (by assumption) ?rab6
                case yab6 => (intro w hSw; go_simp; try with_reducible rfl)
                (try simp only [List.getElem_toArray, List.getElem_cons_succ, List.getElem_cons_zero, Act.put, List.setIfInBounds_toArray, List.set_cons_zero, List.set_cons_succ])
                refine wpAnyH_take (i := 7) (oi := _) (v := ?vab7) rfl (by kernel_rfl) (by kernel_rfl) (by kernel_rfl) (fun _ _ _ h => h) (Or.inl ⟨by rfl, ?yab7⟩) (by assumption) ?rab7
                case yab7 => (intro w hSw; go_simp; try with_reducible rfl)
                (try simp only [List.getElem_toArray, List.getElem_cons_succ, List.getElem_cons_zero, Act.put, List.setIfInBounds_toArray, List.set_cons_zero, List.set_cons_succ])
                refine wpAnyH_take (i := 8) (oi := _) (v := ?vab8) rfl (by kernel_rfl) (by kernel_rfl) (by kernel_rfl) (fun _ _ _ h => h) (Or.inl ⟨by rfl, ?yab8⟩) (by assumption) ?rab8
                case yab8 => (intro w hSw; go_simp; try with_reducible rfl)
                (try simp only [List.getElem_toArray, List.getElem_cons_succ, List.getElem_cons_zero, Act.put, List.setIfInBounds_toArray, List.set_cons_zero, List.set_cons_succ])
                refine wpAnyH_take (i := 9) (oi := _) (v := ?vab9) rfl (by kernel_rfl) (by kernel_rfl) (by kernel_rfl) (fun _ _ _ h => h) (Or.inl ⟨by rfl, ?yab9⟩) (by assumption) ?rab9
                case yab9 => (intro w hSw; go_simp; try with_reducible rfl)
                (try simp only [List.getElem_toArray, List.getElem_cons_succ, List.getElem_cons_zero, Act.put, List.setIfInBounds_toArray, List.set_cons_zero, List.set_cons_succ])
                refine wpAnyH_take (i := 10) (oi := _) (v := ?vab10) rfl (by kernel_rfl) (by kernel_rfl) (by kernel_rfl) (fun _ _ _ h => h) (Or.inl ⟨by rfl, ?yab10⟩) (by assumption) ?rab10
                case yab10 => (intro w hSw; go_simp; try with_reducible rfl)
                (try simp only [List.getElem_toArray, List.getElem_cons_succ, List.getElem_cons_zero, Act.put, List.setIfInBounds_toArray, List.set_cons_zero, List.set_cons_succ])
                refine wpAnyH_take (i := 11) (oi := _) (v := ?vab11) rfl (by kernel_rfl) (by kernel_rfl) (by kernel_rfl) (fun _ _ _ h => h) (Or.inl ⟨by rfl, ?yab11⟩) (by assumption) ?rab11
                case yab11 => (intro w hSw; go_simp; try with_reducible rfl)
                (try simp only [List.getElem_toArray, List.getElem_cons_succ, List.getElem_cons_zero, Act.put, List.setIfInBounds_toArray, List.set_cons_zero, List.set_cons_succ])
                refine wpAnyH_ready (rs := [12]) (by kernel_rfl) (by simp) ?_
                refine AllReadyH.cons (o := _) rfl (fun K hK => ?_) AllReadyH.nil
                (try simp only [List.getElem_toArray, List.getElem_cons_succ, List.getElem_cons_zero])
                go_simp
                refine (content_st (op.c) _).mono ?_
                rintro e wA ⟨rfl, LC, XA⟩
                have XA : Hid (Chg (fun _ => False) w20 wA) := ((Ext.refl w20).drew.chg _).trans XA (fun _ _ h => h)
                have LC := Lib.hid LC
                have gp : Hid (w20.drew.heap.size ≠ Lb.p) := fun e => by have := Db.out.lt _ (.inl rfl); simp at e; omega
                refine hK.out _ _ ?_ (fun hHeld => ?_)
                · exact XA.out.mono (fun _ _ h => h.elim)
                clear hK K
                (try simp only [List.getElem_toArray, List.getElem_cons_succ, List.getElem_cons_zero, Act.put, List.setIfInBounds_toArray, List.set_cons_zero, List.set_cons_succ])
                refine wpAnyH_ready (rs := [13]) (by kernel_rfl) (by simp) ?_
                refine AllReadyH.cons (o := _) rfl (fun K hK => ?_) AllReadyH.nil
                (try simp only [List.getElem_toArray, List.getElem_cons_succ, List.getElem_cons_zero])
                go_simp
                have qw := write_st (cb := 512) (k := op.n % 16) (Db.out.ext XA.out) (by omega) (wf_mod16 _) LC.out gp.out (full_content (op.c))
                refine qw.mono ?_
                clear qw
                rintro e wB ⟨rfl, DB, XB⟩
                have XB : Hid (Chg (Foot Lb) w20 wB) := (XA.out.mono (fun _ _ h => h.elim)).trans XB (fun _ _ h => h)
                have DB : Hid (DvIs wB Lb (writeS (sb) (op.n % 16) (content (op.c))).1 (j + 1)) := DB
                refine hK.out _ _ ?_ (fun hHeld => ?_)
                · exact XB.out
                clear hK K
                (try simp only [List.getElem_toArray, List.getElem_cons_succ, List.getElem_cons_zero, Act.put, List.setIfInBounds_toArray, List.set_cons_zero, List.set_cons_succ])
                refine wpAnyH_take (i := 14) (oi := _) (v := ?vab14) rfl (by kernel_rfl) (by kernel_rfl) (by kernel_rfl) (fun _ _ _ h => h) (Or.inl ⟨by rfl, ?yab14⟩) (by assumption) ?rab14
                case yab14 => (intro w hSw; go_simp; try with_reducible rfl)
                (try simp only [List.getElem_toArray, List.getElem_cons_succ, List.getElem_cons_zero, Act.put, List.setIfInBounds_toArray, List.set_cons_zero, List.set_cons_succ])
                refine wpAnyH_done (by kernel_rfl) ?_ _
                have DB := Lib.hid DB
                clear r1 r2
                go_wp2_with fail
                go_meet
                rw [st.out]
                exact ⟨rfl, Da.out.chg XB.out djab.out, DB.out, XB.out⟩
            case rest =>
              clear Da Db c0 CC KE SA SB
              obtain ⟨rfl, Da, Db, X1⟩ := hcut
              have Da : Hid (DvIs wc La ta (j + 1)) := Da
              have Db : Hid (DvIs wc Lb (stepA op sb).1 (j + 1)) := Db
              have Y : Hid (Chg (fun _ => False) w wc) := Y.out.trans X1.out (fun i hi h => absurd hi (by have := frb.out i h; omega))
              clear X1
              obtain ⟨w30, hwc⟩ : ∃ W, W = wc := ⟨_, rfl⟩
              rw [← hwc] at Da Db Y ⊢
              clear hwc
              rw [← SE.out]
              have DN := FF.out.down
              have LO : Hid ((stepA op sb).1.lo.length = ta.lo.length) := congrArg List.length FF.out.lo.symm
              generalize (stepA op sb).1 = tb at Db FF DN LO
              obtain ⟨dd, hdd⟩ : ∃ x, x = ta.d.down := ⟨_, rfl⟩
              have hda := Lib.hid hdd.symm
              have hdb : Hid (tb.d.down = dd) := DN.symm.trans hdd.symm
              clear hdd DN hk hk' 
              have q := up_st Da.out
              rw [hda.out] at q
              have q := Lib.hid q
              go_wp2_with fail
              refine q.out.mono ?_
              rintro e wq ⟨rfl, hw⟩
              have hw := hw.symm
              subst hw
              clear q
              have q := up_st Db.out
              rw [hdb.out] at q
              have q := Lib.hid q
              go_wp2_with fail
              refine q.out.mono ?_
              rintro e wq ⟨rfl, hw⟩
              have hw := hw.symm
              subst hw
              clear q
              have q := loose_st Da.out
              have q := Lib.hid q
              go_wp2_with fail
              refine q.out.mono ?_
              rintro e wq ⟨rfl, hw⟩
              have hw := hw.symm
              subst hw
              clear q
              have q := loose_st Db.out
              rw [LO.out] at q
              have q := Lib.hid q
              go_wp2_with fail
              refine q.out.mono ?_
              rintro e wq ⟨rfl, hw⟩
              have hw := hw.symm
              subst hw
              clear q
              generalize ta.lo.length = ln
              go_wp2
              go_roundg (60 - (j + 1))
              case measure => omega
              case rel => exact ⟨j + 1, _, _, by go_num, by omega, by omega, Nat.le_refl _, Da.out, Db.out, FF.out, Y.out⟩
      · have hd : decide ((j : Int) < 60) = false := by simp; omega
        go_wp2_with fail
        go_meet
        exact ⟨j, sa, sb, Da.out.mono (by omega), Db.out.mono (by omega), AP.out, Y.out⟩
    · go_wp2_with fail
      go_meet
      exact ⟨j, sa, sb, Da.out.mono (by omega), Db.out.mono (by omega), AP.out, Y.out⟩
end Go.Proofs.Ytedcpmkfanlicaa
