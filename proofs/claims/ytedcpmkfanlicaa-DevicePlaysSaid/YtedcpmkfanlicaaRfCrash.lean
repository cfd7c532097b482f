/- The reference's Crash. -/
import Derived.Test.YtedcpmkfanlicaaRfLaw
set_option linter.unusedVariables false
set_option linter.unusedSimpArgs false
namespace Go.Proofs.Ytedcpmkfanlicaa
open Go Go.RowKit Go.Sort Go.Lib Go.Maps Go.Deep
theorem ownO_get {w : World} {a : Option Addr} {n c : Nat} {lo : List Int} (h : w.ownsRow 0 3 1 (.slice a n c) lo.length (lo.map zV)) (t : Nat) (ht : t < lo.length) : ∃ g, a = some ⟨g, 0, none⟩ ∧ w.cell? ⟨g, t, none⟩ = some (.int .i64 lo[t]) := by
  rcases owns_shape h with ⟨e, h0⟩ | ⟨g, cap, e, hg, _⟩
  · omega
  · have e' := e
    simp only [Value.slice.injEq] at e
    obtain ⟨rfl, rfl, rfl⟩ := e
    refine ⟨g, rfl, ?_⟩
    have := owns_cells h rfl t (.int .i64 lo[t]) (by simp [zV, ht])
    rwa [Nat.zero_add] at this
/-- the strings have a block's length -/
def Sized (L : List Rb) : Prop := ∀ b ∈ L, b.fl.size = 512 ∧ b.nw.size = 512
theorem flat_set3 : ∀ (L : List Rb) (j : Nat) (b : Rb), j < L.length → (((flat rbCells L).set (j * 3) (.int .i64 b.k)).set (j * 3 + 1) (.string b.fl)).set (j * 3 + 2) (.string b.nw) = flat rbCells (L.set j b)
  | x :: r, 0, b, _ => by rw [flat_cons]; rfl
  | x :: r, j + 1, b, h => by
    have ih := flat_set3 r j b (by simpa using h)
    rw [flat_cons, List.set_cons_succ, flat_cons, ← ih, show (j + 1) * 3 = j * 3 + 3 by omega]
    rfl
theorem crashL_step {res : Nat → ByteArray → ByteArray → ByteArray} {t : Nat} {L : List Rb} {k : Int} {rest : List Int} {j : Nat} (h : atR L k = some j) : crashL res t L (k :: rest) = crashL res (t + 1) (putR L j (res t (L[j]?.getD default).fl (L[j]?.getD default).nw)) rest := by
  show crashL res (t + 1) (match atR L k with | some j => putR L j (res t (L[j]?.getD default).fl (L[j]?.getD default).nw) | none => L) rest = _
  rw [h]
theorem resS_size {mask torn : Int} {b : Nat} (hb : b ≤ 512) (i : Nat) {old x : ByteArray} (ho : old.size = 512) (hx : x.size = 512) : (resS mask torn b i old x).size = 512 := by
  unfold resS
  split
  · rw [ByteArray.size_append, ByteArray.size_extract, ByteArray.size_extract]; omega
  · split <;> assumption
theorem bitS_tmod (mask : Int) (hm : u64 mask) (t : Nat) : ((mask / 2 ^ (t % 64)).tmod 2 == 1) = bitS mask t := by
  unfold bitS
  rw [Int.tmod_eq_emod_of_nonneg (Int.ediv_nonneg hm.1 (Int.pow_nonneg (by decide)))]
section
variable {w : World} {R : Rl} {r : Rf}
theorem crashR_down (H : RfIs w R r) (hd : r.down = true) (mask torn bytes : Int) : Calls Try.prog 29 #[.pointer (some ⟨R.p, 0, none⟩), .int .u64 mask, .int .i64 torn, .int .i64 bytes] w fun e w' => e = .returned (.tuple #[]) ∧ w' = w := by
  have c3 : w.cell? ⟨R.p, 3, none⟩ = some (.bool r.down) := (H.cell (j := 3) rfl).1
  rw [hd] at c3
  clear H hd
  go_enter Try.func29, Try.ntmps29
  go_wp2
  refine bodyPost_ret (v := .tuple #[]) ?_ rfl ⟨rfl, rfl⟩
  exact results_none rfl _ _ _
set_option maxHeartbeats 2000000 in
set_option maxRecDepth 100000 in
theorem crashR_up (H : RfIs w R r) (hd : r.down = false) (mask torn bytes : Int) (hm : u64 mask) (hp : ∀ k ∈ r.lo, ∃ j, atR r.L k = some j) (hz : Sized r.L) :
    Calls Try.prog 29 #[.pointer (some ⟨R.p, 0, none⟩), .int .u64 mask, .int .i64 torn, .int .i64 bytes] w fun e w' => e = .returned (.tuple #[]) ∧
      RfIs w' ⟨R.p, R.vL, .slice none 0 0⟩ { r with down := true, armed := 0, lo := [], L := crashL (resS mask torn (toBytes bytes)) 0 r.L r.lo } ∧ Chg (RFt R) w w' := by
  have mixed := Try.mixed
  obtain ⟨p, vL, vO⟩ := R
  obtain ⟨a, c, hv⟩ := owns_len H.ownL
  simp only at hv
  subst hv
  obtain ⟨oa, oc, hv⟩ := owns_len H.ownO
  simp only at hv
  subst hv
  have c3 : w.cell? ⟨p, 3, none⟩ = some (.bool r.down) := (H.cell (j := 3) rfl).1
  rw [hd] at c3
  have lenL : r.L.length ≤ 9223372036854775807 := by have := H.lenL; unfold maxLen at this; omega
  have lenO : r.lo.length ≤ 9223372036854775807 := by have := H.lenO; unfold maxLen at this; omega
  have HP := Lib.hid hp
  have HZ := Lib.hid hz
  obtain ⟨tb, htb⟩ : ∃ x, x = toBytes bytes := ⟨_, rfl⟩
  have tb8 : tb ≤ 512 := by rw [htb]; exact toBytes_le _
  have tbe : min (max bytes 0) 512 = (tb : Int) := by rw [htb]; exact toBytes_eq _
  rw [← htb]
  have HH := Lib.hid H
  obtain ⟨m, hm'⟩ : ∃ m, m = r.L.length := ⟨_, rfl⟩
  have HM := Lib.hid hm'.symm
  obtain ⟨q, hq'⟩ : ∃ q, q = r.lo.length := ⟨_, rfl⟩
  have HQ := Lib.hid hq'.symm
  obtain ⟨R, hR⟩ : ∃ R : Rl, R = ⟨p, .slice a m c, .slice oa q oc⟩ := ⟨_, rfl⟩
  have HH : Hid (RfIs w R r) := by rw [hR, hm', hq']; exact HH.out
  have HR := Lib.hid hR
  have goalR : (⟨p, .slice a r.L.length c, .slice oa r.lo.length oc⟩ : Rl) = R := by rw [hR, hm', hq']
  rw [goalR]
  have ep : R.p = p := by rw [hR]
  have eL : R.vL = .slice a m c := by rw [hR]
  rw [ep, eL]
  rw [← hm'] at lenL
  rw [← hq'] at lenO
  have EP := Lib.hid ep
  have HEL := Lib.hid eL
  have HEO : Hid (R.vO = .slice oa q oc) := by rw [hR]; rfl
  clear H hd hp hz htb hm' hq' hR goalR ep eL
  go_enter Try.func29, Try.ntmps29
  go_upto_if 15 with fail
  go_cut [3] (fun s3 wx => s3 = .int .i64 (max bytes 0) ∧ w = wx)
  case first =>
    by_cases h0 : bytes < 0
    · have e : max bytes 0 = 0 := by omega
      go_wp2_with fail
      go_meet
      exact ⟨by rw [e], rfl⟩
    · have e : max bytes 0 = bytes := by omega
      go_wp2_with fail
      go_meet
      exact ⟨by rw [e], rfl⟩
  case rest =>
  obtain ⟨rfl, rfl⟩ := hcut
  go_upto_if 17 with fail
  go_cut [3] (fun s3 wx => s3 = .int .i64 (tb : Int) ∧ w = wx)
  case first =>
    by_cases h0 : max bytes 0 > 512
    · have e : (tb : Int) = 512 := by omega
      go_wp2_with fail
      go_meet
      exact ⟨by rw [e], rfl⟩
    · have e : max bytes 0 = (tb : Int) := by omega
      rw [e] at h0 ⊢
      go_wp2_with fail
      go_meet
      exact ⟨rfl, rfl⟩
  case rest =>
  obtain ⟨rfl, rfl⟩ := hcut
  clear c3 tbe
  go_wp2
  go_loopg [8] q (fun kx s8 wr => ∃ (t : Nat) (Lt : List Rb), s8 = .int .i64 t ∧ t ≤ q ∧ q - t ≤ kx ∧ Aside (RfIs wr R { r with L := Lt }) ∧ Aside (Lt.map (·.k) = r.L.map (·.k)) ∧ Aside (crashL (resS mask torn tb) t Lt (r.lo.drop t) = crashL (resS mask torn tb) 0 r.L r.lo) ∧ Aside (Sized Lt) ∧ Aside (Chg (RFt R) w wr))
  case atStart => exact ⟨0, r.L, rfl, Nat.zero_le _, by omega, HH.out, rfl, rfl, HZ.out, Chg.refl _ _⟩
  case round =>
    clear HH HZ
    obtain ⟨t, Lt, rfl, htq, hg, H, K, E, Z, Y⟩ := hrel
    have H : Hid (RfIs wr R { r with L := Lt }) := H
    have K : Hid (Lt.map (·.k) = r.L.map (·.k)) := K
    have E : Hid (crashL (resS mask torn tb) t Lt (r.lo.drop t) = crashL (resS mask torn tb) 0 r.L r.lo) := E
    have Z : Hid (Sized Lt) := Z
    have Y : Hid (Chg (RFt R) w wr) := Y
    have z0 : (0 : Int) ≤ (t : Int) := by omega
    have lm : Lt.length = m := by have := congrArg List.length K.out; rw [List.length_map, List.length_map, HM.out] at this; exact this
    by_cases hlt : t < q
    · have z1 : (t : Int) < (q : Int) := by omega
      have htl : t < r.lo.length := by rw [HQ.out]; exact hlt
      have dr := List.drop_eq_getElem_cons htl
      obtain ⟨j, hj0⟩ := HP.out _ (List.getElem_mem htl)
      have hj : atR Lt r.lo[t] = some j := by rw [atR_keys K.out]; exact hj0
      obtain ⟨hjl, hjk⟩ := atR_lt hj
      have oL : wr.ownsRow 0 80 3 (.slice a m c) Lt.length (flat rbCells Lt) := by have := H.out.ownL; rw [HEL.out] at this; exact this
      have oO : wr.ownsRow 0 3 1 (.slice oa q oc) r.lo.length (r.lo.map zV) := by have := H.out.ownO; rw [HEO.out] at this; exact this
      obtain ⟨g, rfl, x0, x1, x2, fz⟩ := ownL_get oL j hjl
      obtain ⟨og, rfl, ck⟩ := ownO_get oO t htl
      have c1 : wr.cell? ⟨p, 1, none⟩ = some (.slice (some ⟨g, 0, none⟩) m c) := by have := (H.out.cell (j := 1) rfl).1; rw [EP.out, HEL.out] at this; exact this
      have c2 : wr.cell? ⟨p, 2, none⟩ = some (.slice (some ⟨og, 0, none⟩) q oc) := by have := (H.out.cell (j := 2) rfl).1; rw [EP.out, HEO.out] at this; exact this
      rw [dr] at E
      generalize hk : r.lo[t] = k at *
      have HK := Lib.hid hk
      clear hk
      have ev : atV Lt k = (j : Int) := by unfold atV; rw [hj]
      have AT : Hid (∀ W, Chg (fun _ => False) wr W → Calls Try.prog 43 #[.pointer (some ⟨p, 0, none⟩), .int .i64 k] W fun e w' => e = .returned (.int .i64 (j : Int)) ∧ w' = W) := fun W X => by
        have AT := (atR_any (H.out.ext X) k)
        rw [EP.out] at AT
        replace AT : Calls Try.prog 43 #[.pointer (some ⟨p, 0, none⟩), .int .i64 k] W fun e w' => e = .returned (.int .i64 (atV Lt k)) ∧ w' = W := AT
        rw [ev] at AT
        exact AT
      have ZZ := Lib.hid (Z.out Lt[j] (List.getElem_mem hjl))
      have DR := Lib.hid dr
      have HJ := Lib.hid hj
      have HJL := Lib.hid hjl
      have FZ := Lib.hid fz
      have GX : Hid (Lt[j]?.getD default = Lt[j]) := getD_lt hjl
      have w1 : j < m := by omega
      have z2 : (0 : Int) ≤ (j : Int) := by omega
      have z3 : (j : Int) < (m : Int) := by omega
      generalize hx : Lt[j] = x at x0 x1 x2 ZZ GX hjk
      have HX := Lib.hid hx
      clear hx ev dr hj hj0 oL oO fz hjk
      go_upto_region 8 with fail
      go_cut [9] (fun s9 wx => ∃ X, s9 = .pointer (some ⟨X, 0, none⟩) ∧ wr.heap.size ≤ X ∧ Aside (wx.heap[X]? = some (.cells (rbCells x).toArray 80 (0, 0))) ∧ Aside (Chg (fun _ => False) wr wx))
      case first =>
        go_region_held3 (fun W => W.cell? ⟨p, 1, none⟩ = some (.slice (some ⟨g, 0, none⟩) m c) ∧ W.cell? ⟨p, 2, none⟩ = some (.slice (some ⟨og, 0, none⟩) q oc) ∧ W.cell? ⟨og, t, none⟩ = some (.int .i64 k) ∧ W.cell? ⟨g, j * 3, none⟩ = some (.int .i64 x.k) ∧ W.cell? ⟨g, j * 3 + 1, none⟩ = some (.string x.fl) ∧ W.cell? ⟨g, j * 3 + 2, none⟩ = some (.string x.nw)) (go_keep) (first | (go_at_call 43; refine (AT.out _ (by first | exact ((Ext.refl wr).drew).chg _ | exact (((Ext.refl wr).alloc _).drew).chg _)).mono ?_; rintro e w3 ⟨rfl, rfl⟩))
        all_goals (go_wp2; go_meet; exact ⟨wr.heap.size, rfl, Nat.le_refl _, heap_alloc_new wr _, (((Ext.refl wr).alloc _).drew).chg _⟩)
      case rest =>
        obtain ⟨X, rfl, hX, BX, XX⟩ := hcut
        have XX : Hid (Chg (fun _ => False) wr wc) := XX
        have BX : Hid (wc.heap[X]? = some (.cells (rbCells x).toArray 80 (0, 0))) := BX
        have H2 := Lib.hid (H.out.ext XX.out)
        have Y2 : Hid (Chg (RFt R) w wc) := Y.out.trans XX.out (fun i hi h => h.elim)
        have XN : Hid (¬ RFt R X) := fun h => by have := H.out.lt X h; omega
        clear AT c1 c2 ck x0 x1 x2 XX
        obtain ⟨w20, hwc⟩ : ∃ W, W = wc := ⟨_, rfl⟩
        rw [← hwc] at BX H2 Y2 ⊢
        clear hwc
        have y1 : w20.cell? ⟨X, 1, none⟩ = some (.string x.fl) := (cell_of_blk BX.out (j := 1) rfl).1
        have y2 : w20.cell? ⟨X, 2, none⟩ = some (.string x.nw) := (cell_of_blk BX.out (j := 2) rfl).1
        have g1 : w20.frozen? ⟨X, 1, none⟩ = false := (cell_of_blk BX.out (j := 1) rfl).2
        have s1 : x.fl.size = 512 := ZZ.out.1
        have s2 : x.nw.size = 512 := ZZ.out.2
        obtain ⟨ns, hns⟩ : ∃ y, y = resS mask torn tb t x.fl x.nw := ⟨_, rfl⟩
        have NS := Lib.hid hns
        clear hns
        go_upto_if 44 with fail
        go_cut [] (fun wx => Aside (wx.heap[X]? = some (.cells (rbCells ⟨x.k, ns, x.nw⟩).toArray 80 (0, 0))) ∧ Aside (Chg (fun i => i = X) w20 wx))
        case first =>
          by_cases htt : (t : Int) = torn
          · have NE : Hid (ns = x.nw.extract 0 tb ++ x.fl.extract tb 512) := by show _ = _; rw [NS.out]; unfold resS; rw [if_pos htt]
            have tz1 : (tb : Int) ≤ 512 := by omega
            have tz2 : (0 : Int) ≤ (tb : Int) := by omega
            subst htt
            go_upto_region 10 with fail
            go_region
            go_wp2
            go_meet
            refine ⟨?_, (chg_setCell w20 ⟨X, 1, none⟩ _).drew⟩
            rw [NE.out]
            exact heap_setCell_same w20 X 1 _ 80 _ BX.out
          · have ht1 : ((t : Int) == torn) = false := by simpa using htt
            have BT := bitS_tmod mask hm t
            cases hbit : bitS mask t with
            | true =>
              have NE : Hid (ns = x.nw) := by show _ = _; rw [NS.out]; unfold resS; rw [if_neg htt, hbit]; rfl
              rw [hbit] at BT
              clear hbit
              go_wp2_with fail
              go_meet
              refine ⟨?_, chg_setCell w20 ⟨X, 1, none⟩ _⟩
              rw [NE.out]
              exact heap_setCell_same w20 X 1 _ 80 _ BX.out
            | false =>
              have NE : Hid (ns = x.fl) := by show _ = _; rw [NS.out]; unfold resS; rw [if_neg htt, hbit]; rfl
              rw [hbit] at BT
              clear hbit
              go_wp2_with fail
              go_meet
              refine ⟨?_, Chg.refl _ _⟩
              rw [NE.out]
              exact BX.out
        case rest =>
          clear BX y1 y2 g1
          obtain ⟨BX, X1⟩ := hcut
          have BX : Hid (wc.heap[X]? = some (.cells (rbCells ⟨x.k, ns, x.nw⟩).toArray 80 (0, 0))) := BX
          have H3 := Lib.hid (H2.out.chg X1.out (fun i h e => XN.out (e ▸ h)))
          have Y3 : Hid (Chg (RFt R) w wc) := Y2.out.trans X1.out (fun i hi e => by have := Y.out.size; omega)
          clear X1 H2 Y2
          obtain ⟨w30, hwc⟩ : ∃ W, W = wc := ⟨_, rfl⟩
          rw [← hwc] at BX H3 Y3 ⊢
          clear hwc
          have y1 : w30.cell? ⟨X, 1, none⟩ = some (.string ns) := (cell_of_blk BX.out (j := 1) rfl).1
          have y2 : w30.cell? ⟨X, 2, none⟩ = some (.string x.nw) := (cell_of_blk BX.out (j := 2) rfl).1
          have g2 : w30.frozen? ⟨X, 2, none⟩ = false := (cell_of_blk BX.out (j := 2) rfl).2
          go_upto_region 14 with fail
          obtain ⟨w31, h31⟩ : ∃ W, W = w30.setCell ⟨X, 2, none⟩ (.string ns) := ⟨_, rfl⟩
          rw [← h31]
          have X1 : Chg (fun i => i = X) w30 w31 := by rw [h31]; exact chg_setCell w30 ⟨X, 2, none⟩ _
          have BX : Hid (w31.heap[X]? = some (.cells (rbCells ⟨x.k, ns, ns⟩).toArray 80 (0, 0))) := by show _ = _; rw [h31]; exact heap_setCell_same w30 X 2 _ 80 _ BX.out
          have H4 := Lib.hid (H3.out.chg X1 (fun i h e => XN.out (e ▸ h)))
          have Y4 : Hid (Chg (RFt R) w w31) := Y3.out.trans X1 (fun i hi e => by have := Y.out.size; omega)
          clear X1 h31 y1 y2 g2 H3 Y3
          have RG : Hid (RFt R g) := .inr (.inl (by rw [HEL.out]; rfl))
          have n1 : g ≠ p := fun e => H4.out.apL (by rw [EP.out, HEL.out, ← e]; rfl)
          have n2 : g ≠ og := fun e => H4.out.apLO g (by rw [HEL.out]; rfl) (by rw [HEO.out, e]; rfl)
          have n3 : g ≠ X := fun e => XN.out (e ▸ RG.out)
          have oL : w31.ownsRow 0 80 3 (.slice (some ⟨g, 0, none⟩) m c) Lt.length (flat rbCells Lt) := by have := H4.out.ownL; rw [HEL.out] at this; exact this
          have oO : w31.ownsRow 0 3 1 (.slice (some ⟨og, 0, none⟩) q oc) r.lo.length (r.lo.map zV) := by have := H4.out.ownO; rw [HEO.out] at this; exact this
          obtain ⟨g', hg', x0, x1, x2, fz⟩ := ownL_get oL j HJL.out
          cases hg'
          obtain ⟨og', hog', ck⟩ := ownO_get oO t htl
          cases hog'
          have f0 := fz (j * 3)
          have f1 := fz (j * 3 + 1)
          have f2 := fz (j * 3 + 2)
          have hx' : Lt[j]'HJL.out = x := (getD_lt HJL.out).symm.trans GX.out
          rw [hx'] at x0 x1 x2
          rw [HK.out] at ck
          clear hx'
          have c1 : w31.cell? ⟨p, 1, none⟩ = some (.slice (some ⟨g, 0, none⟩) m c) := by have := (H4.out.cell (j := 1) rfl).1; rw [EP.out, HEL.out] at this; exact this
          have c2 : w31.cell? ⟨p, 2, none⟩ = some (.slice (some ⟨og, 0, none⟩) q oc) := by have := (H4.out.cell (j := 2) rfl).1; rw [EP.out, HEO.out] at this; exact this
          have y0 : w31.cell? ⟨X, 0, none⟩ = some (.int .i64 x.k) := (cell_of_blk BX.out (j := 0) rfl).1
          have y1 : w31.cell? ⟨X, 1, none⟩ = some (.string ns) := (cell_of_blk BX.out (j := 1) rfl).1
          have y2 : w31.cell? ⟨X, 2, none⟩ = some (.string ns) := (cell_of_blk BX.out (j := 2) rfl).1
          have AT : Hid (Calls Try.prog 43 #[.pointer (some ⟨p, 0, none⟩), .int .i64 k] w31.drew fun e w' => e = .returned (.int .i64 (j : Int)) ∧ w' = w31.drew) := by
            have AT := (atR_any (H4.out.ext ((Ext.refl w31).drew.chg _)) k)
            rw [EP.out] at AT
            replace AT : Calls Try.prog 43 #[.pointer (some ⟨p, 0, none⟩), .int .i64 k] w31.drew fun e w' => e = .returned (.int .i64 (atV Lt k)) ∧ w' = w31.drew := AT
            have ev : atV Lt k = (j : Int) := by unfold atV; rw [HJ.out]
            rw [ev] at AT
            exact AT
          clear fz
          have OL := Lib.hid oL
          clear oL oO
          go_region_held3 (fun W => W.cell? ⟨p, 1, none⟩ = some (.slice (some ⟨g, 0, none⟩) m c) ∧ W.cell? ⟨p, 2, none⟩ = some (.slice (some ⟨og, 0, none⟩) q oc) ∧ W.cell? ⟨og, t, none⟩ = some (.int .i64 k) ∧ W.cell? ⟨X, 0, none⟩ = some (.int .i64 x.k) ∧ W.cell? ⟨X, 1, none⟩ = some (.string ns) ∧ W.cell? ⟨X, 2, none⟩ = some (.string ns)) (go_keep) (first | (go_at_call 43; refine AT.out.mono ?_; rintro e w3 ⟨rfl, rfl⟩))
          obtain ⟨w40, h40⟩ : ∃ W, W = (((w31.setCell ⟨g, j * 3, none⟩ (.int .i64 x.k)).setCell ⟨g, j * 3 + 1, none⟩ (.string ns)).setCell ⟨g, j * 3 + 2, none⟩ (.string ns)).drew := ⟨_, rfl⟩
          rw [← h40]
          have XW : Chg (fun i => i = g) w31 w40 := by
            rw [h40]
            have t : ∀ {W W' : World} {k : Nat} {v : Value}, Chg (fun i => i = g) W W' → Chg (fun i => i = g) W (W'.setCell ⟨g, k, none⟩ v) := fun X => X.trans (chg_setCell _ _ _) (fun _ _ h => h)
            exact (t (t (t (Chg.refl _ w31)))).drew
          have hK : (putR Lt j ns).map (·.k) = Lt.map (·.k) := set_keys Lt j _ HJL.out (by rw [getD_lt HJL.out])
          have hlen : (putR Lt j ns).length = Lt.length := List.length_set
          have H5 : RfIs w40 R { r with L := putR Lt j ns } := by
            refine ⟨?_, ?_, XW.owns H4.out.ownO (fun i hi e => H4.out.apLO g (by rw [HEL.out]; rfl) (e ▸ hi))⟩
            · rw [XW.block R.p (blk_lt H4.out.blk) (fun e => n1 (by rw [← e, EP.out]))]
              exact H4.out.blk
            · have o0 := OL.out
              rw [lm] at o0
              have o1 := (o0.stored (j * 3) (.int .i64 x.k)).1
              have o2 := (o1.stored (j * 3 + 1) (.string ns)).1
              have o3 := (o2.stored (j * 3 + 2) (.string ns)).1
              have e := flat_set3 Lt j ⟨x.k, ns, ns⟩ HJL.out
              have e2 : putR Lt j ns = Lt.set j ⟨x.k, ns, ns⟩ := by unfold putR; rw [GX.out]
              rw [HEL.out]
              show w40.ownsRow 0 80 3 _ (putR Lt j ns).length (flat rbCells (putR Lt j ns))
              rw [hlen, e2, ← e]
              have o4 := ((Ext.refl _).drew.chg (fun _ => False)).owns o3 (fun _ _ h => h)
              rw [h40]
              rw [lm]
              exact o4
          have H5 := Lib.hid H5
          have K5 : Hid ((putR Lt j ns).map (·.k) = r.L.map (·.k)) := hK.trans K.out
          have E5 : Hid (crashL (resS mask torn tb) (t + 1) (putR Lt j ns) (r.lo.drop (t + 1)) = crashL (resS mask torn tb) 0 r.L r.lo) := by
            have := E.out
            rw [crashL_step HJ.out, GX.out, ← NS.out] at this
            exact this
          have Z5 : Hid (Sized (putR Lt j ns)) := fun b hb => by
            rcases List.mem_or_eq_of_mem_set hb with h | h
            · exact Z.out b h
            · subst h
              have := resS_size (mask := mask) (torn := torn) tb8 t s1 s2
              rw [← NS.out] at this
              exact ⟨this, this⟩
          have Y5 : Hid (Chg (RFt R) w w40) := Y4.out.trans XW (fun i hi e => e ▸ RG.out)
          clear h40 XW hK hlen f0 f1 f2 x0 x1 x2 c1 c2 ck y0 y1 y2 AT
          go_wp2
          go_roundg (q - (t + 1))
          case measure => omega
          case rel => exact ⟨t + 1, putR Lt j ns, by go_num, by omega, Nat.le_refl _, H5.out, K5.out, E5.out, Z5.out, Y5.out⟩
    · obtain rfl : t = q := by omega
      have z1 : ¬ (t : Int) < (t : Int) := by omega
      have dr : r.lo.drop t = [] := List.drop_eq_nil_of_le (by rw [HQ.out]; exact Nat.le_refl _)
      have E : Hid (Lt = crashL (resS mask torn tb) 0 r.L r.lo) := by have := E.out; rw [dr] at this; exact this
      clear dr
      have c2 : wr.cell? ⟨p, 2, none⟩ = some (.slice oa t oc) := by have := (H.out.cell (j := 2) rfl).1; rw [EP.out, HEO.out] at this; exact this
      have c3 : wr.cell? ⟨p, 3, none⟩ = some (.bool r.down) := by have := (H.out.cell (j := 3) rfl).1; rw [EP.out] at this; exact this
      have c5 : wr.cell? ⟨p, 5, none⟩ = some (.int .i64 r.armed) := by have := (H.out.cell (j := 5) rfl).1; rw [EP.out] at this; exact this
      have f2 : wr.frozen? ⟨p, 2, none⟩ = false := by have := (H.out.cell (j := 2) rfl).2; rw [EP.out] at this; exact this
      have f3 : wr.frozen? ⟨p, 3, none⟩ = false := by have := (H.out.cell (j := 3) rfl).2; rw [EP.out] at this; exact this
      have f5 : wr.frozen? ⟨p, 5, none⟩ = false := by have := (H.out.cell (j := 5) rfl).2; rw [EP.out] at this; exact this
      go_wp2
      go_end0
      have t' : ∀ {W W' : World} {k : Nat} {v : Value}, Chg (fun i => i = p) W W' → Chg (fun i => i = p) W (W'.setCell ⟨p, k, none⟩ v) := fun X => X.trans (chg_setCell _ _ _) (fun _ _ h => h)
      have XW := t' (k := 5) (v := .int .i64 0) (t' (k := 3) (v := .bool true) (t' (k := 2) (v := .slice none 0 0) (Chg.refl _ wr)))
      have B := H.out.blk
      rw [EP.out, HEL.out, HEO.out] at B
      refine ⟨rfl, ⟨?_, ?_, World.ownsRow_nil _ _ _ _⟩, Y.out.trans XW (fun i hi e => .inl (e.trans EP.out.symm))⟩
      · exact heap_setCell_same _ p 5 _ 76 _ (heap_setCell_same _ p 3 _ 76 _ (heap_setCell_same _ p 2 _ 76 _ B))
      · have o := XW.owns H.out.ownL (fun i hi e => H.out.apL (by rw [EP.out, ← e]; exact hi))
        rw [← E.out]
        rw [HEL.out] at o
        exact o
end
end Go.Proofs.Ytedcpmkfanlicaa
