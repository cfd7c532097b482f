/- The walk of Both. -/
import Derived.Test.YtfeomnkgkppdlaaSpBothA
set_option linter.unusedVariables false
set_option linter.unusedSimpArgs false
namespace Go.Proofs.Ytfeomnkgkppdlaa
open Go Go.RowKit Go.Sort Go.Lib
attribute [local go_sem ↓] run_size24 run_size49 run_size25
attribute [local simp high] run_size24x run_size49x run_size25x
attribute [local go_sem ↓] to_span1 to_span2 to_span3 to_key1 to_spans1 to_keys1 to_bd0 to_bd1
attribute [local simp] is_bFrEn is_bTo is_bEn is_bFrTo is_bSpans1 is_bKeys1 run_bFrEn run_bTo run_bEn run_bFrTo run_bSpans1 run_bKeys1 is_bBdKey is_bBdEn is_bSp3 run_bBdKey run_bBdEn run_bBd0 run_bSp3

/-- Clean's answer -/
def CleanOf (ss out : List Sp) : Prop := ∃ ss', ss'.Perm (ss.filter keepS) ∧ (∀ i j (_ : i < j) (hj : j < ss'.length), ltF ss'[j] (ss'[i]'(by omega)) = false) ∧ out = cleanF ss'
theorem CleanOf.length {ss out : List Sp} (h : CleanOf ss out) : out.length ≤ ss.length := by
  obtain ⟨ss', hp, _, rfl⟩ := h
  have h1 := cleanF_length ss' ss'.length (Nat.le_refl _)
  rw [List.take_of_length_le (Nat.le_refl _)] at h1
  have h2 := hp.length_eq
  have h3 := List.length_filter_le keepS ss
  omega
theorem clean_spans (v : Value) (ss : List Sp) (w : World) (h : SpansIn w v ss) (hb : ss.length ≤ 1000000) :
    Calls Try.prog 12 #[v] w fun e w' => ∃ v' out, e = .returned v' ∧ CleanOf ss out ∧ SpansIn w' v' out ∧ Chg (fun _ => False) w w' :=
  (clean_any v ss w h hb).mono fun e w' ⟨v', ss', he, hp, hs, ho, hc⟩ => ⟨v', cleanF ss', he, ⟨ss', hp, hs, rfl⟩, spansIn_own ho, hc⟩

set_option maxHeartbeats 4000000 in
set_option maxRecDepth 100000 in
theorem both_any (va vb : Value) (xa xb : List Sp) (w : World) (ha : SpansIn w va xa) (hb : SpansIn w vb xb) (hla : xa.length ≤ 1000) (hlb : xb.length ≤ 1000) :
    Calls Try.prog 15 #[va, vb] w fun e w' => ∃ v' ca cb, e = .returned v' ∧ CleanOf xa ca ∧ CleanOf xb cb ∧ SpansIn w' v' (bothF ca cb) ∧ Chg (fun _ => False) w w' := by
  have mixed := Try.mixed
  have k1 : ¬ K24 = 0 := by decide
  have k2 : ¬ K49 = 0 := by decide
  have k3 : ¬ K25 = 0 := by decide
  have k4 : (25 = K25) = True := by decide
  have k5 : (49 = K49) = True := by decide
  obtain ⟨i0, hi, hz0, hz1, hz2⟩ := info_parts info28
  have sl1 : ∀ x, (bdCells x).length = 25 := bdCells_length
  have sl2 : ∀ x, ¬ (bdCells x).length ≠ K25 := fun x => by rw [sl1]; decide
  have c1 := Lib.hid (clean_spans va xa w ha (by omega))
  have HB := Lib.hid hb
  clear ha hb
  go_enter Try.func15, Try.ntmps15
  go_wp2_with fail
  refine c1.out.mono ?_
  rintro e w1 ⟨va1, ca, rfl, CA, SA, X1⟩
  have CA := Lib.hid CA
  have SA := Lib.hid SA
  have X1 := Lib.hid X1
  have c2 := Lib.hid (clean_spans vb xb w1 (HB.out.chg X1.out (fun _ _ h => h)) (by omega))
  clear c1
  go_wp2_with fail
  refine c2.out.mono ?_
  rintro e w2 ⟨vb1, cb, rfl, CB, SB, X2⟩
  have CB := Lib.hid CB
  have SB := Lib.hid SB
  have SA := Lib.hid (SA.out.chg X2 (fun _ _ h => h))
  have X2 : Hid (Chg (fun _ => False) w w2) := X1.out.trans X2 (fun _ _ h => h)
  clear c2 X1
  have hca : ca.length ≤ 1000 := Nat.le_trans CA.out.length hla
  have hcb : cb.length ≤ 1000 := Nat.le_trans CB.out.length hlb
  have BL : Hid ((bothF ca cb).length ≤ ca.length + cb.length) := bothF_length _ ca cb (Nat.le_refl _)
  go_wp2
  go_loopg [0, 1, 5] (ca.length + cb.length) (fun kx s0 s1 s5 wr => ∃ xs ys outs, Aside (SpansIn wr s0 xs) ∧ Aside (SpansIn wr s1 ys) ∧ Aside (wr.ownsRow w2.heap.size 28 49 s5 outs.length (flat spanCells outs)) ∧ Aside (bothF ca cb = outs ++ bothF xs ys) ∧ xs.length + ys.length ≤ kx ∧ Aside (SpansIn w2 s0 xs) ∧ Aside (SpansIn w2 s1 ys) ∧ Aside (Chg (fun _ => False) w2 wr))
  case atStart => exact ⟨ca, cb, [], SA.out, SB.out, ⟨rfl, .inl ⟨rfl, rfl⟩⟩, rfl, Nat.le_refl _, SA.out, SB.out, Chg.refl _ _⟩
  case round =>
    obtain ⟨xs, ys, outs, SX, SY, OWN, BF, hg, SX2, SY2, Y⟩ := hrel
    have OL : Hid (outs.length ≤ 2000) := by
      have h1 := congrArg List.length BF.out
      rw [List.length_append] at h1
      have h2 := BL.out
      show _ ≤ _; omega
    cases xs with
    | nil =>
      obtain ⟨a0, c0, rfl⟩ := SX.out.length
      obtain ⟨a1, c1, rfl⟩ := SY.out.length
      have E : Hid (bothF ca cb = outs) := by show _ = _; rw [BF.out, bothF_nil, List.append_nil]
      simp only [List.length_nil] at *
      go_wp2
      go_ret
      exact ⟨_, ca, cb, rfl, CA.out, CB.out, by rw [E.out]; exact spansIn_own OWN.out, X2.out.trans Y.out (fun _ _ h => h)⟩
    | cons x xs =>
    cases ys with
    | nil =>
      obtain ⟨a0, c0, rfl⟩ := SX.out.length
      obtain ⟨a1, c1, rfl⟩ := SY.out.length
      have E : Hid (bothF ca cb = outs) := by show _ = _; rw [BF.out, bothF_nil2, List.append_nil]
      simp only [List.length_nil, List.length_cons] at *
      have z1 : (0 : Int) < (xs.length : Int) + 1 := by omega
      go_wp2
      go_ret
      exact ⟨_, ca, cb, rfl, CA.out, CB.out, by rw [E.out]; exact spansIn_own OWN.out, X2.out.trans Y.out (fun _ _ h => h)⟩
    | cons y ys =>
      obtain ⟨va', tA, SXT⟩ := SX2.out.tail
      obtain ⟨vb', tB, SYT⟩ := SY2.out.tail
      have SXT := Lib.hid SXT
      have SYT := Lib.hid SYT
      obtain ⟨bx, ox, cx, rfl, HX⟩ := SX.out.head
      obtain ⟨bY, oy, cy, rfl, HY⟩ := SY.out.head
      have HX := Lib.hid HX
      have HY := Lib.hid HY
      have l1 : Sem.run Try.prog (loadCellsFrom ⟨bx, ox, none⟩ 0 K49 #[]) wr = .ok (spanCells x).toArray wr := HX.out.load _ K49 (spanCells_length _)
      have z1 : (0 : Int) < (xs.length : Int) + 1 := by omega
      have z2 : (0 : Int) < (ys.length : Int) + 1 := by omega
      have bo := Lib.hid (bounds_any x wr)
      unfold spanV bdV at bo
      go_wp2_with fail
      refine bo.out.mono ?_
      rintro e wa ⟨rfl, Xa⟩
      have Xa := Lib.hid Xa
      clear bo l1
      have sa := fun x c1 c2 => (two_store x wa c1 c2).1
      have sb := fun x c1 c2 => (two_store x wa c1 c2).2
      have B6 := Lib.hid (bdAt_two wa (fromB x) (toB x)).1
      have B7 := Lib.hid (bdAt_two wa (fromB x) (toB x)).2
      have Xb : Hid (Ext wr ((wa.alloc (.cells (bdCells (fromB x)).toArray 43)).alloc (.cells (bdCells (toB x)).toArray 43))) := (Xa.out.alloc _).alloc _
      have l2 : Sem.run Try.prog (loadCellsFrom ⟨bY, oy, none⟩ 0 K49 #[]) ((wa.alloc (.cells (bdCells (fromB x)).toArray 43)).alloc (.cells (bdCells (toB x)).toArray 43)) = .ok (spanCells y).toArray ((wa.alloc (.cells (bdCells (fromB x)).toArray 43)).alloc (.cells (bdCells (toB x)).toArray 43)) := (Xb.out.cells HY.out).load _ K49 (spanCells_length _)
      have bo := Lib.hid (bounds_any y ((wa.alloc (.cells (bdCells (fromB x)).toArray 43)).alloc (.cells (bdCells (toB x)).toArray 43)))
      unfold spanV bdV at bo
      go_wp2_with fail
      refine bo.out.mono ?_
      rintro e wb ⟨rfl, Xc⟩
      have B6 := Lib.hid (B6.out.ext Xc)
      have B7 := Lib.hid (B7.out.ext Xc)
      have Xc : Hid (Ext wr wb) := Xb.out.trans Xc
      have AB : Hid (wa.heap.size + 1 < wb.heap.size) := B7.out.lt
      have RW : Hid (wr.heap.size ≤ wa.heap.size) := Xa.out.size
      have RA : Hid (w2.heap.size ≤ wa.heap.size) := by have := Xa.out.size; have := Y.out.size; show _ ≤ _; omega
      clear bo l2 sa sb Xa Xb
      have sa := fun x c1 c2 => (two_store x wb c1 c2).1
      have sb := fun x c1 c2 => (two_store x wb c1 c2).2
      have B8 := Lib.hid (bdAt_two wb (fromB y) (toB y)).1
      have B9 := Lib.hid (bdAt_two wb (fromB y) (toB y)).2
      have Xd : Hid (Ext wb ((wb.alloc (.cells (bdCells (fromB y)).toArray 43)).alloc (.cells (bdCells (toB y)).toArray 43))) := ((Ext.refl wb).alloc _).alloc _
      have B6 := Lib.hid (B6.out.ext Xd.out)
      have B7 := Lib.hid (B7.out.ext Xd.out)
      have l8 := B8.out.load
      have l6 := B6.out.load
      have co := Lib.hid (compare_any (fromB y) (fromB x) ((wb.alloc (.cells (bdCells (fromB y)).toArray 43)).alloc (.cells (bdCells (toB y)).toArray 43)))
      unfold bdV at co
      go_wp2_with fail
      refine co.out.mono ?_
      rintro e wz ⟨rfl, Xe⟩
      have B6 := Lib.hid (B6.out.ext Xe)
      have B7 := Lib.hid (B7.out.ext Xe)
      have B8 := Lib.hid (B8.out.ext Xe)
      have B9 := Lib.hid (B9.out.ext Xe)
      have Xe : Hid (Ext wr wz) := (Xc.out.trans Xd.out).trans Xe
      clear co sa sb Xd l6 l8
      have MX : Hid (maxB (fromB y) (fromB x) = if 0 < cmpB (fromB y) (fromB x) then fromB y else fromB x) := rfl
      generalize hcf : cmpB (fromB y) (fromB x) = cf at MX ⊢
      clear hcf
      go_upto_if 39 with fail
      go_cut [] (fun wx => Aside (BdAt wx wa.heap.size (maxB (fromB y) (fromB x))) ∧ Aside (Chg (fun i => i = wa.heap.size) wz wx))
      case first =>
        by_cases hct : 0 < cf
        · obtain ⟨we, e1, K1, C1⟩ := B6.out.put (fromB y)
          have K1 := Lib.hid K1
          have C1 := Lib.hid C1
          have l8 := B8.out.load
          go_wp2_with fail
          go_meet
          exact ⟨by rw [MX.out, if_pos hct]; exact K1.out, C1.out⟩
        · go_wp2_with fail
          go_meet
          exact ⟨by rw [MX.out, if_neg (by omega)]; exact B6.out, Chg.refl _ _⟩
      case rest =>
        obtain ⟨K6, CC⟩ := hcut
        have B7 := Lib.hid (B7.out.chg CC.out (by omega))
        have B9 := Lib.hid (B9.out.chg CC.out (by have := AB.out; omega))
        have l7 := B7.out.load
        have l9 := B9.out.load
        have CC : Hid (Chg (fun i => i = wa.heap.size) wr wc) := (Xe.out.chg _).trans CC.out (fun _ _ h => h)
        have co := Lib.hid (compare_any (toB x) (toB y) wc)
        unfold bdV at co
        go_wp2_with fail
        refine co.out.mono ?_
        rintro e w5 ⟨rfl, X5⟩
        have B6 := Lib.hid (K6.out.ext X5)
        have B7 := Lib.hid (B7.out.ext X5)
        have B9 := Lib.hid (B9.out.ext X5)
        have CC : Hid (Chg (fun i => i = wa.heap.size) wr w5) := CC.out.trans (X5.chg fun _ => False) (fun _ _ h => h.elim)
        clear co l7 l9 K6
        have LE := Lib.hid (bothF_le (x := x) (y := y) (a := xs) (b := ys))
        have GT := Lib.hid (bothF_gt (x := x) (y := y) (a := xs) (b := ys))
        have MN : Hid (minB (toB x) (toB y) = if cmpB (toB x) (toB y) ≤ 0 then toB x else toB y) := rfl
        generalize hcf : cmpB (toB x) (toB y) = ct at MN LE GT ⊢
        clear hcf
        have HL : Hid (xs.length + 1 + (ys.length + 1) = (x :: xs).length + (y :: ys).length) := rfl
        go_upto_if 44 with fail
        go_cut [0, 1] (fun s0 s1 wx => ∃ xs2 ys2, Aside (BdAt wx wa.heap.size (maxB (fromB y) (fromB x))) ∧ Aside (BdAt wx (wa.heap.size + 1) (minB (toB x) (toB y))) ∧ Aside (SpansIn w2 s0 xs2) ∧ Aside (SpansIn w2 s1 ys2) ∧ xs2.length + ys2.length + 1 = xs.length + 1 + (ys.length + 1) ∧ Aside (bothF (x :: xs) (y :: ys) = pieceS (maxB (fromB y) (fromB x)) (minB (toB x) (toB y)) ++ bothF xs2 ys2) ∧ Aside (Chg (fun i => i = wa.heap.size ∨ i = wa.heap.size + 1) wr wx))
        case first =>
          by_cases hct : ct ≤ 0
          · go_wp2_with fail
            go_meet
            exact ⟨xs, y :: ys, B6.out, by rw [MN.out, if_pos hct]; exact B7.out, SXT.out, SY2.out, by simp only [List.length_cons]; omega, LE.out hct, CC.out.mono (fun _ _ h => .inl h)⟩
          · obtain ⟨we, e1, K1, C1⟩ := (B7.out.ext ((Ext.refl w5).drew)).put (toB y)
            have l9 := (B9.out.ext ((Ext.refl w5).drew)).load
            have K1 := Lib.hid K1
            have C1 := Lib.hid C1
            have B6' := Lib.hid ((B6.out.ext ((Ext.refl w5).drew)).chg C1.out (by omega))
            have CD : Hid (Chg (fun i => i = wa.heap.size ∨ i = wa.heap.size + 1) wr we) := ((CC.out.mono (fun _ _ h => .inl h)).trans (((Ext.refl w5).drew).chg fun _ => False) (fun _ _ h => h.elim)).trans C1.out (fun _ _ h => .inr h)
            go_wp2_with fail
            go_region
            all_goals go_wp2_with fail
            all_goals go_meet
            all_goals exact ⟨x :: xs, ys, B6'.out, by rw [MN.out, if_neg (by omega)]; exact K1.out, SX2.out, SYT.out, by simp only [List.length_cons]; omega, GT.out (by omega), CD.out⟩
        case rest =>
          obtain ⟨xs2, ys2, K6, K7, SA3, SB3, HL2, BE, CE⟩ := hcut
          have B6 := K6
          have l6 := K6.out.load
          have l7 := K7.out.load
          have O5 := Lib.hid (CE.out.owns OWN.out (fun i hi h => by have := (OWN.out.lt i hi).2; have := RW.out; omega))
          have CT : Hid (Chg (fun _ => False) w2 wc) := Y.out.trans CE.out (fun i hi h => by have := RA.out; omega)
          generalize maxB (fromB y) (fromB x) = f at *
          generalize minB (toB x) (toB y) = t at *
          have co := Lib.hid (compare_any f t wc)
          unfold bdV at co
          clear LE GT MN MX
          go_wp2_with fail
          refine co.out.mono ?_
          rintro e w6 ⟨rfl, X6⟩
          have l6 := (K6.out.ext X6).load
          have l7 := (K7.out.ext X6).load
          have O6 := Lib.hid ((X6.chg fun _ => False).owns O5.out (fun _ _ h => h))
          have CT : Hid (Chg (fun _ => False) w2 w6) := CT.out.trans (X6.chg _) (fun _ _ h => h)
          have PS : Hid (pieceS f t = if cmpB f t < 0 then [madeS f t] else []) := rfl
          generalize hcf : cmpB f t = cg at PS ⊢
          clear hcf co
          by_cases hc : cg < 0
          · have BF2 : Hid (bothF ca cb = (outs ++ [madeS f t]) ++ bothF xs2 ys2) := by show _ = _; rw [BF.out, BE.out, PS.out, if_pos hc, List.append_assoc]
            have ma := Lib.hid (made_any f t w6)
            unfold spanV bdV at ma
            go_wp2_with fail
            refine ma.out.mono ?_
            rintro e w7 ⟨rfl, X5⟩
            have X5 := Lib.hid X5
            clear ma
            have OW := Lib.hid ((X5.out.alloc (.cells (spanCells (madeS f t)).toArray 28)).chg (fun _ => False) |>.owns O6.out (fun _ _ h => h))
            have N1 : Hid ((spanCells (madeS f t)).length = 1 * 49) := spanCells_length _
            have N2 : Hid (∀ ad, some (⟨w7.heap.size, 0, none⟩ : Addr) = some ad → ∀ j u, (spanCells (madeS f t))[j]? = some u → (w7.alloc (.cells (spanCells (madeS f t)).toArray 28)).cell? (ad.add j) = some u) := by
              rintro ad e j u hj
              cases e
              rw [Addr.add_lit]
              exact cellsAt_new w7 (spanCells (madeS f t)) 28 j u hj
            go_wp2_with (at_builtin; refine wpList_append_any rfl _ _ 22 rfl w2.heap.size 28 i0 (.agg (spanCells zeroSp).toArray) 49 49 Try.underlying22 hi hz0 hz1 hz2 rfl (by decide) _ _ _ rfl OW.out (some ⟨w7.heap.size, 0, none⟩) 1 1 (spanCells (madeS f t)) rfl N1.out (fun h => by cases h) N2.out (spanCells_one _) ?c1 ?c2 ?c3 ?_)
            case c1 => have := OL.out; unfold maxLen; omega
            case c2 => have := OL.out; omega
            case c3 => have h5 := X5.out.size; have := CT.out.size; simp only [World.size_alloc] at h5 ⊢; omega
            intro v6 w8 own6 ch6
            have own6 := Lib.hid own6
            have C6 : Hid (Chg (fun _ => False) w2 w8) := by
              have a : Chg (fun _ => False) w2 (w7.alloc (.cells (spanCells (madeS f t)).toArray 28)) := (CT.out.trans (X5.out.chg fun _ => False) (fun _ _ h => h)).trans (chg_alloc _ _ _) (fun _ _ h => h)
              exact a.trans ch6 (fun i hi h => absurd hi (by omega))
            clear N1 N2 OW ch6
            go_wp2
            go_roundg (xs2.length + ys2.length)
            case measure => simp only [List.length_cons] at hg; omega
            case rel => exact ⟨xs2, ys2, outs ++ [madeS f t], SA3.out.chg C6.out (fun _ _ h => h), SB3.out.chg C6.out (fun _ _ h => h), by show World.ownsRow _ _ _ _ _ _ _; rw [List.length_append, flat_append]; simpa [flat] using own6.out, BF2.out, Nat.le_refl _, SA3.out, SB3.out, C6.out⟩
          · have BF2 : Hid (bothF ca cb = outs ++ bothF xs2 ys2) := by show _ = _; rw [BF.out, BE.out, PS.out, if_neg hc, List.nil_append]
            go_wp2
            go_roundg (xs2.length + ys2.length)
            case measure => simp only [List.length_cons] at hg; omega
            case rel => exact ⟨xs2, ys2, outs, SA3.out.chg CT.out (fun _ _ h => h), SB3.out.chg CT.out (fun _ _ h => h), O6.out, BF2.out, Nat.le_refl _, SA3.out, SB3.out, CT.out⟩
end Go.Proofs.Ytfeomnkgkppdlaa
