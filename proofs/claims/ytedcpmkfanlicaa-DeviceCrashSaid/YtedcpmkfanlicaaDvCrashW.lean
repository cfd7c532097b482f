/- DeviceCrash's walk. -/
import Derived.Test.YtedcpmkfanlicaaDvStr
import Derived.Deep.RegionHeld3
import Derived.Deep.LoopGhost
import Derived.Deep.CutBlock
import Derived.Deep.DeepCutAuto
set_option linter.unusedVariables false
set_option linter.unusedSimpArgs false
namespace Go.Proofs.Ytedcpmkfanlicaa
open Go Go.RowKit Go.Sort Go.Lib Go.Maps Go.Deep
set_option maxHeartbeats 4000000 in
set_option maxRecDepth 100000 in
theorem deviceCrash_any (w : World) (a : Option Addr) (cap : Nat) (l : List OpV) (mask torn bytes : Int) (HL : OpsIn w a l) (hm : u64 mask) (ht : wfK torn) (hb : wfK bytes) :
    Calls Try.prog 5 #[.slice a l.length cap, .int .u64 mask, .int .i64 torn, .int .i64 bytes] w fun e w' => e = .returned (.bool true) ∧ Chg (fun _ => False) w w' := by
  have mixed := Try.mixed
  have S0 := Lib.hid (shown_any w)
  have hsm : l.length ≤ 9223372036854775807 := HL.small
  have HL := Lib.hid HL
  have HM := Lib.hid hm
  clear ht hb hm
  generalize hn : l.length = n at hsm ⊢
  have HN := Lib.hid hn
  clear hn
  go_enter Try.func5, Try.ntmps5
  go_wp2_with fail
  refine S0.out.mono ?_
  rintro e w0 ⟨rfl, Y0⟩
  have Y : Hid (Chg (fun _ => False) w w0) := Y0
  clear Y0 S0
  have q := Lib.hid (new_st 8 w0)
  go_wp2_with fail
  refine q.out.mono ?_
  rintro e w1 ⟨rfl, DD, X⟩
  obtain ⟨La, hL⟩ : ∃ L : Loc, L = ⟨w0.heap.size + 2, w0.heap.size, w0.heap.size + 1⟩ := ⟨_, rfl⟩
  have eL : w0.heap.size + 2 = La.p := by rw [hL]
  have fka : Hid (∀ i, Foot La i → w0.heap.size ≤ i) := by rw [hL]; rintro i (rfl | rfl | rfl) <;> (simp only; omega)
  have fra : Hid (∀ i, Foot La i → w.heap.size ≤ i) := fun i h => by have := Y.out.size; have := fka.out i h; omega
  have Da : Hid (DvIs w1 La (newS 8) 0) := by rw [hL]; exact DD
  have Y : Hid (Chg (fun _ => False) w w1) := Y.out.trans X (fun i hi h => h.elim)
  rw [eL]
  clear q X DD hL eL fka
  have FL : Hid (∀ i, Foot La i → i < w1.heap.size) := Da.out.lt
  have YS : Hid (w.heap.size ≤ w1.heap.size) := Y.out.size
  go_upto_block 0 with fail
  obtain ⟨p0, hp0⟩ : ∃ p, w1.heap.size = p := ⟨_, rfl⟩
  rw [hp0] at FL YS ⊢
  have HP := Lib.hid hp0
  clear hp0
  go_cut [13, 14] (fun s13 s14 wx => ∃ (s : St) (F N : Nat → Int), Aside (DvIs wx La s 60) ∧ Aside (CrP s F N) ∧ Aside (ArrAt wx p0 F) ∧ Aside (ArrAt wx (p0 + 1) N) ∧ Aside (wx.ownsRow (p0 + 2) 3 1 s13 s.lo.length (keysV s.lo)) ∧ Aside (Chg (fun _ => False) w wx))
  case rest =>
    clear Da Y HL HN hsm HP
    obtain ⟨s, F, N, Da, CR, AF, AN, OW, Y⟩ := hcut
    have Da : Hid (DvIs wc La s 60) := Da
    have CR : Hid (CrP s F N) := CR
    have AF : Hid (ArrAt wc p0 F) := AF
    have AN : Hid (ArrAt wc (p0 + 1) N) := AN
    have Y : Hid (Chg (fun _ => False) w wc) := Y
    obtain ⟨oa, oc, hv⟩ := owns_len OW.out
    subst hv
    have OW : Hid (wc.ownsRow (p0 + 2) 3 1 (.slice oa s.lo.length oc) s.lo.length (keysV s.lo)) := OW.out
    obtain ⟨w30, hwc⟩ : ∃ W, W = wc := ⟨_, rfl⟩
    rw [← hwc] at Da AF AN OW Y ⊢
    clear hwc
    have npF : Hid (¬ Foot La p0) := fun h => by have := FL.out _ h; omega
    have npN : Hid (¬ Foot La (p0 + 1)) := fun h => by have := FL.out _ h; omega
    have owN : Hid (∀ i, (Value.slice oa s.lo.length oc).ownBlock = some i → ¬ Foot La i) := fun i hi h => by have := (OW.out.lt i hi).1; have := FL.out i h; omega
    have LB : s.lo.length ≤ 60 := by obtain ⟨nf, nl, D, h1, h2⟩ := Da.out.dev; omega
    have b15 := bits15 torn
    obtain ⟨tn, htn, htn8⟩ : ∃ tn : Nat, torn % 16 = (tn : Int) ∧ tn < 16 := ⟨(torn % 16).toNat, by omega, by omega⟩
    rw [htn] at b15
    have b16 := bits65535 bytes
    obtain ⟨bn, hq, hq8⟩ : ∃ bn : Nat, (bytes % 65536).tmod 513 = (bn : Int) ∧ bn ≤ 512 := by
      have h0 : 0 ≤ bytes % 65536 := by omega
      have h1 := Int.tmod_nonneg 513 h0
      have h2 := Int.tmod_lt_of_pos (bytes % 65536) (show (0 : Int) < 513 by omega)
      exact ⟨((bytes % 65536).tmod 513).toNat, by omega, by omega⟩
    clear htn
    have TB : Hid (toBytes (bn : Int) = bn) := by show _ = _; unfold toBytes; omega
    have CU := Lib.hid (crashS_up CR.out.rdy.up mask tn bn)
    have q := crash_st Da.out (by omega) mask tn bn HM.out
    have q := Lib.hid q
    go_wp2_with fail
    refine q.out.mono ?_
    rintro e w31 ⟨rfl, DD, X⟩
    have Da : Hid (DvIs w31 La (crashS s mask tn bn) (60)) := DD
    have AF := Lib.hid (AF.out.chg X npF.out)
    have AN := Lib.hid (AN.out.chg X npN.out)
    have OW := Lib.hid (X.owns OW.out owN.out)
    have Y : Hid (Chg (fun _ => False) w w31) := Y.out.trans X (fun i hi h => absurd hi (by have := fra.out i h; omega))
    clear q X DD
    clear hq b15 b16
    obtain ⟨sc, hsc⟩ : ∃ x, x = crashS s mask tn bn := ⟨_, rfl⟩
    rw [← hsc] at Da CU
    have SD : Hid (sc.d.down = true) := by rw [CU.out]; rfl
    have SL : Hid (sc.lo.length = 0) := by rw [CU.out]; rfl
    have SN : Hid (sc.d.n = 8) := by rw [CU.out]; exact CR.out.rdy.n8
    have SW : Hid (∀ j : Int, newest sc.G sc.lo j = newest (settleG (resC mask tn bn) 0 s.G s.lo) [] j) := fun j => by rw [CU.out, TB.out]
    clear hsc CU
    have q := up_st Da.out
    rw [SD.out] at q
    have q := Lib.hid q
    go_wp2_with fail
    refine q.out.mono ?_
    rintro e wq ⟨rfl, hw⟩
    have hw := hw.symm
    subst hw
    clear q
    have q := loose_st Da.out
    rw [SL.out] at q
    have q := Lib.hid q
    go_wp2_with fail
    refine q.out.mono ?_
    rintro e wq ⟨rfl, hw⟩
    have hw := hw.symm
    subst hw
    clear q
    have q := flush_st Da.out (by omega)
    rw [flushS_down SD.out] at q
    have q := Lib.hid q
    go_wp2_with fail
    refine q.out.mono ?_
    rintro e w32 ⟨rfl, DD, X⟩
    have Da : Hid (DvIs w32 La (sc) (61)) := DD
    have AF := Lib.hid (AF.out.chg X npF.out)
    have AN := Lib.hid (AN.out.chg X npN.out)
    have OW := Lib.hid (X.owns OW.out owN.out)
    have Y : Hid (Chg (fun _ => False) w w32) := Y.out.trans X (fun i hi h => absurd hi (by have := fra.out i h; omega))
    clear q X DD
    have q := Lib.hid (content_st 1 w32)
    go_wp2_with fail
    refine q.out.mono ?_
    rintro e w33 ⟨rfl, LC, X⟩
    have LC := Lib.hid LC
    have gpa : Hid (w32.heap.size ≠ La.p) := fun e => by have := Da.out.lt _ (.inl rfl); omega
    have Da := Lib.hid (Da.out.chg X (fun _ _ h => h))
    have AF := Lib.hid (AF.out.chg X id)
    have AN := Lib.hid (AN.out.chg X id)
    have OW := Lib.hid (X.owns OW.out (fun _ _ h => h))
    have Y : Hid (Chg (fun _ => False) w w33) := Y.out.trans X (fun i hi h => h.elim)
    clear q X
    have q := write_st (cb := 512) (k := 0) Da.out (by omega) (wf_small (by decide) (by decide)) LC.out gpa.out (full_content 1)
    rw [writeS_down SD.out] at q
    have q := Lib.hid q
    go_wp2_with fail
    refine q.out.mono ?_
    rintro e w34 ⟨rfl, DD, X⟩
    have Da : Hid (DvIs w34 La (sc) (62)) := DD
    have AF := Lib.hid (AF.out.chg X npF.out)
    have AN := Lib.hid (AN.out.chg X npN.out)
    have OW := Lib.hid (X.owns OW.out owN.out)
    have Y : Hid (Chg (fun _ => False) w w34) := Y.out.trans X (fun i hi h => absurd hi (by have := fra.out i h; omega))
    clear q X DD
    clear LC gpa
    have q := start_st Da.out
    have q := Lib.hid q
    go_wp2_with fail
    refine q.out.mono ?_
    rintro e w35 ⟨rfl, DD, X⟩
    have Da : Hid (DvIs w35 La (startS sc) (62)) := DD
    have AF := Lib.hid (AF.out.chg X npF.out)
    have AN := Lib.hid (AN.out.chg X npN.out)
    have OW := Lib.hid (X.owns OW.out owN.out)
    have Y : Hid (Chg (fun _ => False) w w35) := Y.out.trans X (fun i hi h => absurd hi (by have := fra.out i h; omega))
    clear q X DD
    obtain ⟨sd, hsd⟩ : ∃ x, x = startS sc := ⟨_, rfl⟩
    rw [← hsd] at Da
    have MA : Hid (∀ j : Nat, j < 8 → mayS sd j = 0) := fun j hj => mayS_up (by rw [hsd]; rfl) (by rw [hsd]; exact SN.out) j hj
    have NW : Hid (∀ j : Nat, newest sd.G sd.lo j = wantB (resC mask tn bn) s.G s.lo j s.lo.length) := fun j => by rw [wantB_all, ← SW.out, hsd]; rfl
    have WZ : Hid (∀ j : Nat, j < 8 → blkC (F j) = wantB (resC mask tn bn) s.G s.lo j 0) := fun j hj => by rw [wantB_zero, CR.out.fl j hj]
    have WO : Hid (∀ (j : Nat) t (ht : t < s.lo.length), s.lo[t].1 ≠ (j : Int) → wantB (resC mask tn bn) s.G s.lo j (t + 1) = wantB (resC mask tn bn) s.G s.lo j t) := fun j t ht h => wantB_other _ _ _ _ t ht h
    have WT : Hid (∀ (j : Nat) t (ht : t < s.lo.length), s.lo[t].1 = (j : Int) → wantB (resC mask tn bn) s.G s.lo j (t + 1) = resC mask tn bn t (wantB (resC mask tn bn) s.G s.lo j t) (content (N j))) := fun j t ht h => by
      rw [wantB_this _ _ _ _ t ht h]
      obtain ⟨k, _, h2, h3⟩ := CR.out.at t ht
      have : k = j := by rw [h] at h2; omega
      rw [h3, this]
    have WF : Hid (∀ (j : Nat) t, j < 8 → t ≤ s.lo.length → Full (wantB (resC mask tn bn) s.G s.lo j t)) := fun j t hj => by
      induction t with
      | zero => intro _; rw [← WZ.out j hj]; exact full_blkC _
      | succ t ih =>
        intro ht
        by_cases h : s.lo[t].1 = (j : Int)
        · rw [WT.out j t ht h]; exact full_resC hq8 (ih (by omega)) (full_content _)
        · rw [WO.out j t ht h]; exact ih (by omega)
    clear hsd SD SL SN SW TB CR
    have KW := Lib.hid (owns_keys OW.out)
    generalize hG : s.G = G at *
    generalize hlo : s.lo = lo at *
    clear hG hlo
    obtain ⟨nl, hnl⟩ : ∃ x, x = lo.length := ⟨_, rfl⟩
    rw [← hnl] at LB ⊢
    have OW : Hid (w35.ownsRow (p0 + 2) 3 1 (.slice oa nl oc) lo.length (keysV lo)) := by rw [hnl]; exact OW.out
    have HNL := Lib.hid hnl.symm
    clear hnl
    go_wp2
    go_loopg [19] 8 (fun kx s19 wr => ∃ j : Nat, s19 = .int .i64 j ∧ j ≤ 8 ∧ 8 - j ≤ kx ∧ Aside (DvIs wr La sd 62) ∧ Aside (ArrAt wr p0 F) ∧ Aside (ArrAt wr (p0 + 1) N) ∧ Aside (wr.ownsRow (p0 + 2) 3 1 (.slice oa nl oc) lo.length (keysV lo)) ∧ Aside (Chg (fun _ => False) w wr))
    case atStart => exact ⟨0, rfl, by omega, by omega, Da.out, AF.out, AN.out, OW.out, Y.out⟩
    case round =>
      clear Da Y AF AN OW KW
      obtain ⟨j, rfl, hj, hg, Da, AF, AN, OW, Y⟩ := hrel
      have Da : Hid (DvIs wr La sd 62) := Da
      have AF : Hid (ArrAt wr p0 F) := AF
      have AN : Hid (ArrAt wr (p0 + 1) N) := AN
      have OW : Hid (wr.ownsRow (p0 + 2) 3 1 (.slice oa nl oc) lo.length (keysV lo)) := OW
      have Y : Hid (Chg (fun _ => False) w wr) := Y
      obtain ⟨w40, hwc⟩ : ∃ W, W = wr := ⟨_, rfl⟩
      rw [← hwc] at Da AF AN OW Y ⊢
      clear hwc
      by_cases hlt : j < 8
      · have z1 : (j : Int) < 8 := by omega
        have z0 : (0 : Int) ≤ (j : Int) := by omega
        obtain ⟨wb, hwb⟩ : ∃ f : Nat → Blk, f = fun t => wantB (resC mask tn bn) G lo j t := ⟨_, rfl⟩
        have W0 : Hid (blkC (F j) = wb 0) := by rw [hwb]; exact WZ.out j hlt
        have WOj : Hid (∀ t (ht : t < lo.length), lo[t].1 ≠ (j : Int) → wb (t + 1) = wb t) := by rw [hwb]; exact WO.out j
        have WTj : Hid (∀ t (ht : t < lo.length), lo[t].1 = (j : Int) → wb (t + 1) = resC mask tn bn t (wb t) (content (N j))) := by rw [hwb]; exact WT.out j
        have WFj : Hid (∀ t, t ≤ lo.length → Full (wb t)) := by rw [hwb]; exact fun t => WF.out j t hlt
        have NWj : Hid (newest sd.G sd.lo j = wb lo.length) := by rw [hwb]; exact NW.out j
        clear hwb
        have fc := (AF.out.get hlt).1
        generalize hfj : F j = fj at fc W0
        have HFJ := Lib.hid hfj
        clear hfj
        have q := Lib.hid (content_st fj w40)
        go_wp2_with fail
        refine q.out.mono ?_
        rintro e w41 ⟨rfl, LC, X⟩
        have LC := Lib.hid LC
        have gpa : Hid (w40.heap.size ≠ La.p) := fun e => by have := Da.out.lt _ (.inl rfl); omega
        have Da := Lib.hid (Da.out.chg X (fun _ _ h => h))
        have AF := Lib.hid (AF.out.chg X id)
        have AN := Lib.hid (AN.out.chg X id)
        have OW := Lib.hid (X.owns OW.out (fun _ _ h => h))
        have Y : Hid (Chg (fun _ => False) w w41) := Y.out.trans X (fun i hi h => h.elim)
        clear q X
        have cv0 : (convert 31 9 (.slice (some ⟨w40.heap.size, 0, none⟩) 512 512)).run Try.prog w41 = .ok (.string (strB (content fj))) w41 := conv_blk _ (full_content _).1 _ _ 0 512 LC.out
        have fc' := (AF.out.get hlt).1
        rw [HFJ.out] at fc'
        clear LC gpa
        generalize hsv : strB (content fj) = sv0 at cv0
        have HSV := Lib.hid hsv
        clear hsv
        go_upto_if 134 with fail
        go_cut [20] (fun s20 wx => s20 = .string (strB (wb 0)) ∧ Aside (Chg (fun _ => False) w41 wx))
        case first =>
          by_cases h0 : fj = 0
          · have e : Hid (wb 0 = zeroBlk) := by rw [← W0.out, h0]; exact if_pos rfl
            have q := Lib.hid (noughts_any w41)
            go_wp2_with fail
            refine q.out.mono ?_
            rintro e' w42 ⟨rfl, X⟩
            have X := Lib.hid X
            clear q
            go_wp2_with fail
            go_meet
            exact ⟨by rw [e.out], X.out⟩
          · have h0' : (fj == 0) = false := by simpa using h0
            have e : Hid (wb 0 = content fj) := by rw [← W0.out]; exact if_neg h0
            go_wp2_with fail
            go_meet
            exact ⟨by rw [e.out, HSV.out], Chg.refl _ _⟩
        case rest =>
          obtain ⟨rfl, X⟩ := hcut
          have X : Hid (Chg (fun _ => False) w41 wc) := X
          have Da := Lib.hid (Da.out.ext X.out)
          have AF := Lib.hid (AF.out.chg X.out id)
          have AN := Lib.hid (AN.out.chg X.out id)
          have OW := Lib.hid (X.out.owns OW.out (fun _ _ h => h))
          have Y : Hid (Chg (fun _ => False) w wc) := Y.out.trans X.out (fun i hi h => h.elim)
          clear X fc' cv0 HSV W0
          obtain ⟨w50, hwc⟩ : ∃ W, W = wc := ⟨_, rfl⟩
          rw [← hwc] at Da AF AN OW Y ⊢
          clear hwc
          have KW := Lib.hid (owns_keys OW.out)
          go_wp2
          go_loopg [20, 21] nl (fun kx s20 s21 wx => ∃ t : Nat, s20 = .string (strB (wb t)) ∧ s21 = .int .i64 t ∧ t ≤ nl ∧ nl - t ≤ kx ∧ Aside (Chg (fun _ => False) w50 wx))
          case atStart => exact ⟨0, rfl, rfl, Nat.zero_le _, by omega, Chg.refl _ _⟩
          case round =>
            obtain ⟨t, rfl, rfl, htn, hgt, X⟩ := hrel
            have X : Hid (Chg (fun _ => False) w50 wr) := X
            by_cases htl : t < nl
            · have hts : t < lo.length := by rw [HNL.out]; exact htl
              obtain ⟨g, rfl, hgB, ck0⟩ := KW.out t hts
              have ck := X.out.cell ck0 id
              have wo := WOj.out t hts
              have wt := WTj.out t hts
              have fw := Lib.hid (WFj.out t (by omega))
              generalize lo[t].1 = y at ck ck0 wo wt
              clear ck0
              have zt : (t : Int) < (nl : Int) := by omega
              have z2 : (0 : Int) ≤ (t : Int) := by omega
              by_cases hy : y = (j : Int)
              · subst hy
                have wt2 := Lib.hid (wt rfl)
                clear wo wt
                have nc := ((AN.out.chg X.out id).get hlt).1
                generalize N j = nj at nc wt2
                have q := Lib.hid (content_st nj wr)
                go_wp2_with fail
                refine q.out.mono ?_
                rintro e w51 ⟨rfl, LC, X2⟩
                have cv1 : (convert 31 9 (.slice (some ⟨wr.heap.size, 0, none⟩) 512 512)).run Try.prog w51 = .ok (.string (strB (content nj))) w51 := conv_blk _ (full_content _).1 _ _ 0 512 LC
                have X : Hid (Chg (fun _ => False) w50 w51) := X.out.trans X2 (fun i hi h => h.elim)
                have fx := Lib.hid (full_content nj)
                clear q LC X2 nc ck
                generalize content nj = xb at cv1 wt2 fx
                by_cases htt : t = tn
                · have R : Hid (wb (t + 1) = xb.take bn ++ (wb t).drop bn) := by show _ = _; rw [wt2.out]; unfold resC; rw [if_pos (by omega)]
                  subst htt
                  have sx : (strB xb).size = 512 := by rw [strB_size]; exact fx.out.1
                  have sw : (strB (wb t)).size = 512 := by rw [strB_size]; exact fw.out.1
                  have zb : (bn : Int) ≤ 512 := by omega
                  have zb0 : (0 : Int) ≤ (bn : Int) := by omega
                  go_upto_region 45 with fail
                  go_region
                  clear sx sw
                  go_wp2
                  go_roundg (nl - (t + 1))
                  case measure => omega
                  case rel => exact ⟨t + 1, by rw [R.out, strB_torn fw.out.1 hq8], by go_num, by omega, Nat.le_refl _, X.out.drew⟩
                · have ht1 : ¬ (t : Int) = (tn : Int) := by omega
                  have ht2 : ((t : Int) == (tn : Int)) = false := by simpa using ht1
                  have m63 : bits .and .i64 (t : Int) 63 = ((t % 64 : Nat) : Int) := by rw [bits63]; omega
                  cases hbit : bits .and .u64 (mask / 2 ^ (t % 64)) 1 == 1 with
                  | true =>
                    have R : Hid (wb (t + 1) = xb) := by show _ = _; rw [wt2.out]; unfold resC; rw [if_neg (by omega), if_pos hbit]
                    go_wp2
                    go_roundg (nl - (t + 1))
                    case measure => omega
                    case rel => exact ⟨t + 1, by rw [R.out], by go_num, by omega, Nat.le_refl _, X.out⟩
                  | false =>
                    have R : Hid (wb (t + 1) = wb t) := by show _ = _; rw [wt2.out]; unfold resC; rw [if_neg (by omega), if_neg (by rw [hbit]; simp)]
                    go_wp2
                    go_roundg (nl - (t + 1))
                    case measure => omega
                    case rel => exact ⟨t + 1, by rw [R.out], by go_num, by omega, Nat.le_refl _, X.out⟩
              · have hy' : (y == (j : Int)) = false := by simpa using hy
                have wo := Lib.hid (wo hy)
                clear wt
                go_wp2
                go_roundg (nl - (t + 1))
                case measure => omega
                case rel => exact ⟨t + 1, by rw [wo.out], by go_num, by omega, Nat.le_refl _, X.out⟩
            · obtain rfl : t = nl := by omega
              have zt : ¬ (t : Int) < (t : Int) := by omega
              have Da := Lib.hid (Da.out.ext X.out)
              have AF := Lib.hid (AF.out.chg X.out id)
              have AN := Lib.hid (AN.out.chg X.out id)
              have OW := Lib.hid (X.out.owns OW.out (fun _ _ h => h))
              have Y : Hid (Chg (fun _ => False) w wr) := Y.out.trans X.out (fun i hi h => h.elim)
              clear X
              have q := Lib.hid (read_st Da.out (wf_nat (by omega)) (MA.out j hlt))
              go_wp2_with fail
              refine q.out.mono ?_
              rintro e w60 ⟨rfl, B, X⟩
              have R0 : CellsAt w60 wr.heap.size 0 (blkCells (newest sd.G sd.lo j)) := cellsAt_blk B
              rw [NWj.out, HNL.out] at R0
              have Da := Lib.hid (Da.out.ext X)
              have AF := Lib.hid (AF.out.chg X id)
              have AN := Lib.hid (AN.out.chg X id)
              have OW := Lib.hid (X.owns OW.out (fun _ _ h => h))
              have Y : Hid (Chg (fun _ => False) w w60) := Y.out.trans X (fun i hi h => h.elim)
              have cv2 : (convert 31 9 (.slice (some ⟨wr.heap.size, 0, none⟩) 512 512)).run Try.prog w60 = .ok (.string (strB (wb t))) w60 := conv_blk _ (WFj.out t (by rw [HNL.out]; exact Nat.le_refl _)).1 _ _ 0 512 R0
              clear q X B R0
              generalize strB (wb t) = sv at cv2 ⊢
              go_wp2
              go_roundg (8 - (j + 1))
              case measure => omega
              case rel => exact ⟨j + 1, by go_num, by omega, Nat.le_refl _, Da.out, AF.out, AN.out, OW.out, Y.out⟩
      · have z1 : ¬ (j : Int) < 8 := by omega
        go_wp2
        go_ret
        exact ⟨rfl, Y.out⟩
  go_wp2
  go_loopg [13, 14] 60 (fun kx s13 s14 wr => ∃ (j : Nat) (s : St) (F N : Nat → Int), s14 = .int .i64 j ∧ j ≤ n ∧ j ≤ 60 ∧ 60 - j ≤ kx ∧ Aside (DvIs wr La s j) ∧ Aside (CrP s F N) ∧ Aside (ArrAt wr p0 F) ∧ Aside (ArrAt wr (p0 + 1) N) ∧ Aside (wr.ownsRow (p0 + 2) 3 1 s13 s.lo.length (keysV s.lo)) ∧ Aside (Chg (fun _ => False) w wr))
  case atStart =>
    have X : Chg (fun _ => False) w1 ((w1.alloc (.cells (row8 fun _ => 0).toArray 43)).alloc (.cells (row8 fun _ => 0).toArray 43)) := (((Ext.refl w1).alloc _).alloc _).chg _
    refine ⟨0, _, _, _, rfl, Nat.zero_le _, Nat.zero_le _, by omega, Da.out.ext X, crP_new, ?_, ?_, ?_, Y.out.trans X (fun _ _ h => h)⟩
    · have h1 : ArrAt (w1.alloc (.cells (row8 fun _ => 0).toArray 43)) p0 (fun _ => 0) := by unfold ArrAt; rw [← HP.out]; exact heap_alloc_new w1 _
      exact h1.chg (((Ext.refl _).alloc _).chg (fun _ => False)) id
    · unfold ArrAt
      have := heap_alloc_new (w1.alloc (.cells (row8 fun _ => 0).toArray 43)) (.cells (row8 fun _ => 0).toArray 43)
      rw [World.size_alloc, HP.out] at this
      exact this
    · exact World.ownsRow_nil _ _ _ _
  case round =>
    clear Da Y
    obtain ⟨j, s, F, N, rfl, hjn, hj60, hg, Da, CR, AF, AN, OW, Y⟩ := hrel
    have Da : Hid (DvIs wr La s j) := Da
    have CR : Hid (CrP s F N) := CR
    have AF : Hid (ArrAt wr p0 F) := AF
    have AN : Hid (ArrAt wr (p0 + 1) N) := AN
    have Y : Hid (Chg (fun _ => False) w wr) := Y
    by_cases hlt : j < n
    · by_cases hl6 : j < 60
      · have hjl : j < l.length := by have := HN.out; omega
        obtain ⟨b, o, rfl, hb, C⟩ := HL.out.get j hjl
        obtain ⟨op, hop⟩ : ∃ x, x = l[j] := ⟨_, rfl⟩
        rw [← hop] at C
        have fb : Hid (¬ Foot La b) := fun h => by have := fra.out b h; omega
        have CC : Hid (CellsAt wr b (o + j * 7) (opCells op)) := Y.out.cells C id
        have b7 := bits7 op.n
        have c0 : wr.cell? ⟨b, o + j * 7, none⟩ = some (.int .i64 op.kind) := CC.out 0 _ rfl
        have c1 : wr.cell? ⟨b, o + j * 7 + 1, none⟩ = some (.int .i64 op.n) := CC.out 1 _ rfl
        clear C hb hop
        have z1 : (j : Int) < (n : Int) := by omega
        have z0 : (0 : Int) ≤ (j : Int) := by omega
        obtain ⟨k, hk, hk8⟩ : ∃ k : Nat, op.n % 8 = (k : Int) ∧ k < 8 := ⟨(op.n % 8).toNat, by omega, by omega⟩
        rw [hk] at b7
        clear hk
        by_cases k2 : op.kind = 2
        · rw [k2] at c0
          have k2 := Lib.hid k2
          have q := flush_st Da.out (by omega)
          rw [flushS_up CR.out.rdy.up CR.out.rdy.arm] at q
          have q := Lib.hid q
          go_wp2_with fail
          refine q.out.mono ?_
          rintro e w11 ⟨rfl, DD, X⟩
          have Da : Hid (DvIs w11 La (settleS (callS s)) (j + 1)) := DD
          have npF : Hid (¬ Foot La p0) := fun h => by have := FL.out _ h; omega
          have npN : Hid (¬ Foot La (p0 + 1)) := fun h => by have := FL.out _ h; omega
          have AF := Lib.hid (AF.out.chg X npF.out)
          have AN := Lib.hid (AN.out.chg X npN.out)
          have Y : Hid (Chg (fun _ => False) w w11) := Y.out.trans X (fun i hi h => absurd hi (by have := fra.out i h; omega))
          clear q X DD
          have n0 : w11.cell? ⟨p0 + 1, 0, none⟩ = some (.int .i64 (N 0)) := (cell_of_blk AN.out (j := 0) rfl).1
          have n1 : w11.cell? ⟨p0 + 1, 1, none⟩ = some (.int .i64 (N 1)) := (cell_of_blk AN.out (j := 1) rfl).1
          have n2 : w11.cell? ⟨p0 + 1, 2, none⟩ = some (.int .i64 (N 2)) := (cell_of_blk AN.out (j := 2) rfl).1
          have n3 : w11.cell? ⟨p0 + 1, 3, none⟩ = some (.int .i64 (N 3)) := (cell_of_blk AN.out (j := 3) rfl).1
          have n4 : w11.cell? ⟨p0 + 1, 4, none⟩ = some (.int .i64 (N 4)) := (cell_of_blk AN.out (j := 4) rfl).1
          have n5 : w11.cell? ⟨p0 + 1, 5, none⟩ = some (.int .i64 (N 5)) := (cell_of_blk AN.out (j := 5) rfl).1
          have n6 : w11.cell? ⟨p0 + 1, 6, none⟩ = some (.int .i64 (N 6)) := (cell_of_blk AN.out (j := 6) rfl).1
          have n7 : w11.cell? ⟨p0 + 1, 7, none⟩ = some (.int .i64 (N 7)) := (cell_of_blk AN.out (j := 7) rfl).1
          have m0 : w11.cell? ⟨p0, 0, none⟩ = some (.int .i64 (F 0)) := (cell_of_blk AF.out (j := 0) rfl).1
          have f0 : w11.frozen? ⟨p0, 0, none⟩ = false := (cell_of_blk AF.out (j := 0) rfl).2
          have m1 : w11.cell? ⟨p0, 1, none⟩ = some (.int .i64 (F 1)) := (cell_of_blk AF.out (j := 1) rfl).1
          have f1 : w11.frozen? ⟨p0, 1, none⟩ = false := (cell_of_blk AF.out (j := 1) rfl).2
          have m2 : w11.cell? ⟨p0, 2, none⟩ = some (.int .i64 (F 2)) := (cell_of_blk AF.out (j := 2) rfl).1
          have f2 : w11.frozen? ⟨p0, 2, none⟩ = false := (cell_of_blk AF.out (j := 2) rfl).2
          have m3 : w11.cell? ⟨p0, 3, none⟩ = some (.int .i64 (F 3)) := (cell_of_blk AF.out (j := 3) rfl).1
          have f3 : w11.frozen? ⟨p0, 3, none⟩ = false := (cell_of_blk AF.out (j := 3) rfl).2
          have m4 : w11.cell? ⟨p0, 4, none⟩ = some (.int .i64 (F 4)) := (cell_of_blk AF.out (j := 4) rfl).1
          have f4 : w11.frozen? ⟨p0, 4, none⟩ = false := (cell_of_blk AF.out (j := 4) rfl).2
          have m5 : w11.cell? ⟨p0, 5, none⟩ = some (.int .i64 (F 5)) := (cell_of_blk AF.out (j := 5) rfl).1
          have f5 : w11.frozen? ⟨p0, 5, none⟩ = false := (cell_of_blk AF.out (j := 5) rfl).2
          have m6 : w11.cell? ⟨p0, 6, none⟩ = some (.int .i64 (F 6)) := (cell_of_blk AF.out (j := 6) rfl).1
          have f6 : w11.frozen? ⟨p0, 6, none⟩ = false := (cell_of_blk AF.out (j := 6) rfl).2
          have m7 : w11.cell? ⟨p0, 7, none⟩ = some (.int .i64 (F 7)) := (cell_of_blk AF.out (j := 7) rfl).1
          have f7 : w11.frozen? ⟨p0, 7, none⟩ = false := (cell_of_blk AF.out (j := 7) rfl).2
          go_wp2_with fail
          obtain ⟨w12, hw, AF', X2⟩ := arr_copy (g := N) AF.out
          rw [← hw]
          go_roundg (60 - (j + 1))
          case measure => omega
          case rel => exact ⟨j + 1, _, N, N, by go_num, by omega, by omega, Nat.le_refl _, Da.out.chg X2 (fun i h e => npF.out (e ▸ h)), CR.out.flush, AF', AN.out.chg X2 (by omega), World.ownsRow_nil _ _ _ _, Y.out.trans X2 (fun i hi e => by have := YS.out; omega)⟩
        · have k2' : (op.kind == 2) = false := by simpa using k2
          have c2 : wr.cell? ⟨b, o + j * 7 + 2, none⟩ = some (.int .i64 op.c) := CC.out 2 _ rfl
          have b16 := bits65535 op.c
          obtain ⟨cv, hcv, hcv1, hcv2⟩ : ∃ cv : Int, 1 + op.c % 65536 = cv ∧ 1 ≤ cv ∧ cv ≤ 65536 := ⟨_, rfl, by omega, by omega⟩
          have ecv : IntKind.i64.wrap (1 + op.c % 65536) = cv := by rw [hcv]; exact wrap_in _ _ (by omega) (by omega) rfl
          have npF : Hid (¬ Foot La p0) := fun h => by have := FL.out _ h; omega
          have npN : Hid (¬ Foot La (p0 + 1)) := fun h => by have := FL.out _ h; omega
          obtain ⟨oa, oc, hv⟩ := owns_len OW.out
          subst hv
          have OW : Hid (wr.ownsRow (p0 + 2) 3 1 (.slice oa s.lo.length oc) s.lo.length (keysV s.lo)) := OW.out
          clear hcv CC
          have q := Lib.hid (content_st cv wr)
          go_wp2_with fail
          refine q.out.mono ?_
          rintro e w11 ⟨rfl, LC, X⟩
          have gp : wr.heap.size ≠ La.p := fun e => by have := Da.out.lt _ (.inl rfl); omega
          have Da := Lib.hid (Da.out.ext X)
          have AF := Lib.hid (AF.out.chg X id)
          have AN := Lib.hid (AN.out.chg X id)
          have OW := Lib.hid (X.owns OW.out (fun _ _ h => h))
          have Y : Hid (Chg (fun _ => False) w w11) := Y.out.trans X (fun i hi h => h.elim)
          have q := write_st (cb := 512) (k := (k : Int)) Da.out (by omega) (wf_nat (by omega)) LC gp (full_content cv)
          rw [writeS_up CR.out.rdy.up CR.out.rdy.arm (by omega) (by rw [CR.out.rdy.n8]; omega)] at q
          have q := Lib.hid q
          clear gp LC X c0 c1 c2 b7 b16 ecv
          go_wp2_with fail
          refine q.out.mono ?_
          rintro e w12 ⟨rfl, DD, X⟩
          have Da : Hid (DvIs w12 La (putS (callS s) k (content cv)) (j + 1)) := DD
          have AF := Lib.hid (AF.out.chg X npF.out)
          have AN := Lib.hid (AN.out.chg X npN.out)
          have OW := Lib.hid (X.owns OW.out (fun i hi h => by have := (OW.out.lt i hi).1; have := FL.out i h; omega))
          have Y : Hid (Chg (fun _ => False) w w12) := Y.out.trans X (fun i hi h => absurd hi (by have := fra.out i h; omega))
          clear q X DD
          have nk := AN.out.get hk8
          have nk1 := nk.1
          have nk2 := nk.2
          clear nk
          go_upto_region 20 with fail
          obtain ⟨w13, hw13⟩ : ∃ W, W = w12.setCell ⟨p0 + 1, k, none⟩ (.int .i64 cv) := ⟨_, rfl⟩
          rw [← hw13]
          have X : Chg (fun i => i = p0 + 1) w12 w13 := by rw [hw13]; exact chg_setCell w12 ⟨p0 + 1, k, none⟩ _
          have AN : Hid (ArrAt w13 (p0 + 1) (fun i => if i = k then cv else N i)) := by show ArrAt _ _ _; rw [hw13]; exact AN.out.set hk8 cv
          have Da := Lib.hid (Da.out.chg X (fun i h e => npN.out (e ▸ h)))
          have AF := Lib.hid (AF.out.chg X (by omega))
          have OW := Lib.hid (X.owns OW.out (fun i hi h => by have := (OW.out.lt i hi).1; omega))
          have Y : Hid (Chg (fun _ => False) w w13) := Y.out.trans X (fun i hi e => by have := YS.out; omega)
          have CR' : Hid (CrP (putS (callS s) k (content cv)) F (fun i => if i = k then cv else N i)) := CR.out.write hk8 (by omega)
          clear X hw13 nk1 nk2
          have KS : Hid (keysV (putS (callS s) k (content cv)).lo = if (look s.lo k).isSome then keysV s.lo else keysV s.lo ++ [.int .i64 k]) := keysV_put _ _ _ _
          have KL : Hid ((putS (callS s) k (content cv)).lo.length = (keysV (putS (callS s) k (content cv)).lo).length) := (keysV_length _).symm
          have LB : s.lo.length ≤ 60 := by obtain ⟨nf, nl, D, h1, h2⟩ := Da.out.dev; have := congrArg List.length KS.out; rw [keysV_length] at this; split at this <;> simp only [List.length_append, keysV_length, List.length_cons, List.length_nil] at this <;> omega
          have KA := Lib.hid (known_all s.lo k)
          have KN := Lib.hid (known_next s.lo k)
          have KT : Hid (s.lo.take s.lo.length = s.lo) := List.take_length
          have KW := Lib.hid (owns_keys OW.out)
          have L0 : Hid ((keysV s.lo).length = s.lo.length) := keysV_length _
          generalize putS (callS s) k (content cv) = s' at Da CR' KS KL
          generalize hnl : s.lo.length = nl at OW LB KT ⊢
          have HNL := Lib.hid hnl
          clear hnl CR
          go_wp2
          go_loopg [17, 18] nl (fun kx s17 s18 wx => ∃ t : Nat, s17 = .bool (decide ((k : Int) ∈ (s.lo.take t).map (·.1))) ∧ s18 = .int .i64 t ∧ t ≤ nl ∧ nl - t ≤ kx ∧ w13 = wx)
          case atStart => exact ⟨0, rfl, rfl, Nat.zero_le _, by omega, rfl⟩
          case round =>
            obtain ⟨t, rfl, rfl, htn, hgt, rfl⟩ := hrel
            by_cases htl : t < nl
            · have hts : t < s.lo.length := by rw [HNL.out]; exact htl
              obtain ⟨g, rfl, hgB, ck⟩ := KW.out t hts
              have TS := Lib.hid (KN.out t hts)
              generalize hkn : decide ((k : Int) ∈ (s.lo.take t).map (·.1)) = kn at TS ⊢
              generalize s.lo[t].1 = y at ck TS
              have zt : (t : Int) < (nl : Int) := by omega
              have z2 : (0 : Int) ≤ (t : Int) := by omega
              clear hkn
              cases kn with
              | true =>
                go_wp2
                go_roundg (nl - (t + 1))
                case measure => omega
                case rel => exact ⟨t + 1, by rw [TS.out]; rfl, by go_num, by omega, Nat.le_refl _, rfl⟩
              | false =>
                go_wp2
                go_roundg (nl - (t + 1))
                case measure => omega
                case rel => exact ⟨t + 1, by rw [TS.out, Bool.false_or], by go_num, by omega, Nat.le_refl _, rfl⟩
            · obtain rfl : t = nl := by omega
              rw [KT.out, KA.out]
              have zt : ¬ (t : Int) < (t : Int) := by omega
              cases hs : (look s.lo k).isSome with
              | true =>
                have KS := Lib.hid (KS.out.trans (if_pos hs))
                go_wp2
                go_roundg (60 - (j + 1))
                case measure => omega
                case rel =>
                  refine ⟨j + 1, s', F, _, by go_num, by omega, by omega, Nat.le_refl _, Da.out, CR'.out, AF.out, AN.out, ?_, Y.out⟩
                  rw [KL.out, KS.out, L0.out, HNL.out]
                  exact OW.out
              | false =>
                have KS := Lib.hid (KS.out.trans (if_neg (by rw [hs]; simp)))
                obtain ⟨i0, hi, hz0, hz1, hz2⟩ := info_parts info3
                have OWN : Hid ((w13.alloc (.cells #[.int .i64 k] 3)).ownsRow (p0 + 2) 3 1 (.slice oa t oc) t (keysV s.lo)) := OW.out.alloc (.cells #[.int .i64 k] 3)
                have N2 : Hid (∀ j u, ([Value.int .i64 k] : List Value)[j]? = some u → (w13.alloc (.cells #[.int .i64 k] 3)).cell? ((⟨w13.heap.size, 0, none⟩ : Addr).add j) = some u) := fun j u hj => by
                  rw [Addr.add_lit]; exact cellsAt_new w13 [.int .i64 k] 3 j u hj
                have N3 : Hid (∀ u ∈ ([Value.int .i64 k] : List Value), u.oneCell' = true) := fun u hu => by
                  simp only [List.mem_cons, List.not_mem_nil, or_false] at hu
                  subst hu; rfl
                have HS : Hid (p0 + 2 ≤ w13.heap.size) := by
                  have h : p0 + 1 < w13.heap.size := by
                    have := AN.out
                    by_cases hlt : p0 + 1 < w13.heap.size
                    · exact hlt
                    · unfold ArrAt at this; rw [Array.getElem?_eq_none (by omega)] at this; exact absurd this (by simp)
                  show _ ≤ _
                  omega
                go_wp2_with (at_builtin; refine wpList_append_own2 rfl _ _ 44 rfl (p0 + 2) 3 i0 (.int .i64 0) 1 8 Try.underlying44 hi hz0 hz1 hz2 rfl (by decide) _ _ _ rfl OWN.out ⟨w13.heap.size, 0, none⟩ 1 1 [.int .i64 k] rfl rfl N2.out N3.out (by decide) ?c1 ?c2 ?c3 ?_)
                case c1 => unfold maxLen; omega
                case c2 => omega
                case c3 => have := HS.out; simp; omega
                intro v' w14 hown hgr hblk
                have X : Chg (fun i => (Value.slice oa t oc).ownBlock = some i) w13 w14 := (chg_alloc w13 _ _).trans hgr.chg (fun i hi h => h)
                have X := Lib.hid X
                have LW : Hid (∀ i, (Value.slice oa t oc).ownBlock = some i → p0 + 2 ≤ i) := fun i hi => (OW.out.lt i hi).1
                have HO := Lib.hid hown
                clear hown hgr hblk OWN N2 N3 hi hz0 hz1 hz2
                go_wp2
                go_roundg (60 - (j + 1))
                case measure => omega
                case rel =>
                  refine ⟨j + 1, s', F, _, by go_num, by omega, by omega, Nat.le_refl _, Da.out.chg X.out (fun i h e => by have := LW.out i e; have := FL.out i h; omega), CR'.out, AF.out.chg X.out (fun e => by have := LW.out _ e; omega), AN.out.chg X.out (fun e => by have := LW.out _ e; omega), ?_, Y.out.trans X.out (fun i hi e => by have := LW.out _ e; have := YS.out; omega)⟩
                  rw [KL.out, KS.out, List.length_append, L0.out, HNL.out]
                  exact HO.out
      · have hd : decide ((j : Int) < 60) = false := by simp; omega
        go_wp2_with fail
        go_meet
        exact ⟨s, F, N, Da.out.mono (by omega), CR.out, AF.out, AN.out, OW.out, Y.out⟩
    · go_wp2_with fail
      go_meet
      exact ⟨s, F, N, Da.out.mono (by omega), CR.out, AF.out, AN.out, OW.out, Y.out⟩
end Go.Proofs.Ytedcpmkfanlicaa
