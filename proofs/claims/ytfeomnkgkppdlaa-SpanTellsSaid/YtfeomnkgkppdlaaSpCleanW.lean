/- The walk of Clean. -/
import Derived.Test.YtfeomnkgkppdlaaSpCleanA
import Derived.Deep.CutBlock
import Derived.Deep.DeepCutAuto
set_option linter.unusedVariables false
set_option linter.unusedSimpArgs false
namespace Go.Proofs.Ytfeomnkgkppdlaa
open Go Go.RowKit Go.Sort Go.Lib
attribute [local go_sem ↓] run_size24 run_size49 run_size25
attribute [local simp high] run_size24x run_size49x run_size25x
attribute [local go_sem ↓] to_span1 to_span2 to_span3 to_key1 to_spans1 to_keys1 to_bd0 to_bd1
attribute [local simp] is_bFrEn is_bTo is_bEn is_bFrTo is_bSpans1 is_bKeys1 run_bFrEn run_bTo run_bEn run_bFrTo run_bSpans1 run_bKeys1 is_bBdKey is_bBdEn is_bSp3 run_bBdKey run_bBdEn run_bBd0 run_bSp3

set_option maxHeartbeats 4000000 in
set_option maxRecDepth 100000 in
theorem clean_any (v : Value) (ss : List Sp) (w : World) (h : SpansIn w v ss) (hb : ss.length ≤ 1000000) :
    Calls Try.prog 12 #[v] w fun e w' => ∃ v' ss', e = .returned v' ∧ ss'.Perm (ss.filter keepS) ∧ (∀ i j (_ : i < j) (hj : j < ss'.length), ltF ss'[j] (ss'[i]'(by omega)) = false) ∧ w'.ownsRow w.heap.size 28 49 v' (cleanF ss').length (flat spanCells (cleanF ss')) ∧ Chg (fun _ => False) w w' := by
  have mixed := Try.mixed
  have k1 : ¬ K24 = 0 := by decide
  have k2 : ¬ K49 = 0 := by decide
  have k3 : ¬ K25 = 0 := by decide
  have k4 : (25 = K25) = True := by decide
  have k5 : (49 = K49) = True := by decide
  obtain ⟨i0, hi, hz0, hz1, hz2⟩ := info_parts info28
  have sl1 : ∀ x, (bdCells x).length = 25 := bdCells_length
  have sl2 : ∀ x, ¬ (bdCells x).length ≠ K25 := fun x => by rw [sl1]; decide
  have sl3 : ∀ x, (spanCells x).length = 49 := spanCells_length
  have sl4 : ∀ x, ¬ (spanCells x).length ≠ K49 := fun x => by rw [sl3]; decide
  have cl := Lib.hid (clone_any v ss w h hb)
  clear h
  go_enter Try.func12, Try.ntmps12
  go_wp2_with fail
  refine cl.out.mono ?_
  rintro e w1 ⟨v1, rfl, own1, X1⟩
  have X1 := Lib.hid X1
  clear cl
  rcases owns_shape own1 with ⟨rfl, hl0⟩ | ⟨g, cap, rfl, hB, hglt, hcap, hcm⟩
  · have e0 : ss = [] := List.eq_nil_of_length_eq_zero hl0
    subst e0
    clear own1 hl0
    have dn := Lib.hid (delete_none 0 (.func (.func 29) #[] #[]) w1)
    have sn := Lib.hid (AnyF.slices_SortFunc_none Try.sortK none 0 (.func (.func 33) #[] #[]) w1)
    change Hid (Calls Try.prog 32 _ _ _) at sn
    go_wp2_with fail
    refine dn.out.mono ?_
    rintro e w2 ⟨rfl, rfl⟩
    go_wp2_with fail
    refine sn.out.mono ?_
    rintro e w2 ⟨rfl, rfl⟩
    clear dn sn
    go_wp2
    go_loopg [3, 18] 0 (fun kx s3 s18 wr => s3 = .slice none 0 0 ∧ s18 = .int .i64 0 ∧ Aside (Chg (fun _ => False) w wr))
    case atStart => exact ⟨rfl, rfl, X1.out⟩
    case round =>
      obtain ⟨rfl, rfl, Y⟩ := hrel
      go_wp2
      go_ret
      exact ⟨_, [], rfl, List.Perm.refl _, fun i j _ hj => absurd hj (by simp), ⟨rfl, .inl ⟨rfl, rfl⟩⟩, Y.out⟩
  · obtain ⟨R1, _, _, _⟩ := rowB_of_own own1
    have de := Lib.hid (delete_some g cap ss w1 R1 (by omega))
    clear own1 R1
    go_wp2_with fail
    refine de.out.mono ?_
    rintro e w2 ⟨rfl, R2, X2⟩
    have hfl : (ss.filter keepS).length ≤ 1000000 := Nat.le_trans (List.length_filter_le _ _) hb
    have X2 := Lib.hid X2
    have so := Lib.hid (sort_some g cap (ss.filter keepS) w2 R2 hcm (by omega))
    clear de R2
    go_wp2_with fail
    refine so.out.mono ?_
    rintro e w3 ⟨rfl, ts, hp, hsort, R3, X3⟩
    have hlt3 : ts.length = (ss.filter keepS).length := hp.length_eq
    have PT := Lib.hid hp
    have ST := Lib.hid hsort
    have R3 := Lib.hid R3
    have X3 : Hid (Chg (fun _ => False) w w3) := by
      have a := X1.out.trans X2.out (fun i hi h => by omega)
      exact a.trans X3 (fun i hi h => by omega)
    clear so hp hsort X2 hcap
    rw [← hlt3] at hfl ⊢
    clear hlt3
    generalize hn : ts.length = n at hfl ⊢
    have HN := Lib.hid hn
    clear hn
    have hgl := R3.out.lt
    go_wp2
    go_loopg [3, 18] n (fun kx s3 s18 wr => ∃ j : Nat, s18 = .int .i64 j ∧ j ≤ n ∧ n - j ≤ kx ∧ Aside (wr.ownsRow w3.heap.size 28 49 s3 (cleanF (ts.take j)).length (flat spanCells (cleanF (ts.take j)))) ∧ Aside (Chg (fun _ => False) w3 wr))
    case atStart => exact ⟨0, rfl, Nat.zero_le _, by omega, ⟨rfl, .inl ⟨rfl, rfl⟩⟩, Chg.refl _ _⟩
    case round =>
      obtain ⟨j, rfl, hjn, hg, OWN, Y⟩ := hrel
      by_cases hlt : j < n
      · have hj : j < ts.length := by have := HN.out; omega
        obtain ⟨s, hs⟩ : ∃ s, s = ts[j] := ⟨_, rfl⟩
        have HE := Lib.hid hs
        have RR := Lib.hid (R3.out.chg Y.out id)
        have JS : Hid (cleanF (ts.take (j + 1)) = joinS (cleanF (ts.take j)) s) := by show _ = _; rw [cleanF_snoc ts j hj, HE.out]
        have ML : Hid ((cleanF (ts.take j)).length ≤ j) := cleanF_length ts j (by omega)
        have l1 : Sem.run Try.prog (loadCellsFrom ⟨g, j * K49, none⟩ 0 K49 #[]) wr = .ok (spanCells s).toArray wr := by
          have := RR.out.at.load hj
          rw [← hs, Nat.zero_add] at this
          exact this
        clear hs
        have st := fun cs (h : cs.size = 49) => store_last Try.prog (spanCells s) (spanCells_one _) wr cs 28 (by rw [h, spanCells_length])
        have l2 := span_load s wr
        have bo := Lib.hid (bounds_any s (wr.alloc (.cells (spanCells s).toArray 28)))
        unfold spanV bdV at bo
        go_wp2_with fail
        refine bo.out.mono ?_
        rintro e wa ⟨rfl, Xa⟩
        have Xa : Hid (Ext wr wa) := ((Ext.refl wr).alloc _).trans Xa
        clear bo st l1 l2
        have sa := fun x c1 c2 => (two_store x wa c1 c2).1
        have sb := fun x c1 c2 => (two_store x wa c1 c2).2
        generalize houts : cleanF (ts.take j) = outs at OWN JS ML
        have HO := Lib.hid houts
        clear houts
        have B6 := Lib.hid (bdAt_two wa (fromB s) (toB s)).1
        have B7 := Lib.hid (bdAt_two wa (fromB s) (toB s)).2
        have HSZ : Hid (w3.heap.size ≤ wa.heap.size) := by have := Y.out.size; have := Xa.out.size; show _ ≤ _; omega
        have Xb : Hid (Ext wr ((wa.alloc (.cells (bdCells (fromB s)).toArray 43)).alloc (.cells (bdCells (toB s)).toArray 43))) := (Xa.out.alloc _).alloc _
        by_cases hm : 0 < outs.length
        · obtain ⟨g2, cap2, rfl, hB2, R, hc2⟩ := own_row OWN.out hm
          obtain ⟨m, hm1⟩ : ∃ m, outs.length = m + 1 := ⟨outs.length - 1, by omega⟩
          obtain ⟨x, hx⟩ : ∃ x, x = outs[m]'(by omega) := ⟨_, rfl⟩
          have JJ : Hid (cleanF (ts.take (j + 1)) = if cmpB (fromB s) (toB x) ≤ 0 then outs.set m (madeS (fromB x) (if 0 < cmpB (toB s) (toB x) then toB s else toB x)) else outs ++ [madeS (fromB s) (toB s)]) := by
            show _ = _
            rw [JS.out, joinS_some outs s hm]
            simp only [show outs.length - 1 = m by omega, ← hx]
          have lx : Sem.run Try.prog (loadCellsFrom ⟨g2, m * K49, none⟩ 0 K49 #[]) ((wa.alloc (.cells (bdCells (fromB s)).toArray 43)).alloc (.cells (bdCells (toB s)).toArray 43)) = .ok (spanCells x).toArray ((wa.alloc (.cells (bdCells (fromB s)).toArray 43)).alloc (.cells (bdCells (toB s)).toArray 43)) := by
            have := (R.ext Xb.out).at.load (show m < outs.length by omega)
            rw [← hx, Nat.zero_add] at this
            exact this
          clear hx
          have HR := Lib.hid R
          have HM := Lib.hid hm1
          have hml : m ≤ 1000000 := by have := ML.out; omega
          clear R hm
          rw [hm1]
          clear hm1
          have bo := Lib.hid (bounds_any x ((wa.alloc (.cells (bdCells (fromB s)).toArray 43)).alloc (.cells (bdCells (toB s)).toArray 43)))
          unfold spanV bdV at bo
          go_wp2_with fail
          refine bo.out.mono ?_
          rintro e wb ⟨rfl, Xc⟩
          have B6 := Lib.hid (B6.out.ext Xc)
          have B7 := Lib.hid (B7.out.ext Xc)
          have Xc : Hid (Ext wr wb) := Xb.out.trans Xc
          clear bo lx sa sb Xa Xb
          have sa := fun x c1 c2 => (two_store x wb c1 c2).1
          have sb := fun x c1 c2 => (two_store x wb c1 c2).2
          have B9 := Lib.hid (bdAt_two wb (fromB x) (toB x)).1
          have B10 := Lib.hid (bdAt_two wb (fromB x) (toB x)).2
          have Xd : Hid (Ext wb ((wb.alloc (.cells (bdCells (fromB x)).toArray 43)).alloc (.cells (bdCells (toB x)).toArray 43))) := ((Ext.refl wb).alloc _).alloc _
          have B6 := Lib.hid (B6.out.ext Xd.out)
          have B7 := Lib.hid (B7.out.ext Xd.out)
          have l6 := B6.out.load
          have l10 := B10.out.load
          have co := Lib.hid (compare_any (fromB s) (toB x) ((wb.alloc (.cells (bdCells (fromB x)).toArray 43)).alloc (.cells (bdCells (toB x)).toArray 43)))
          unfold bdV at co
          go_wp2_with fail
          refine co.out.mono ?_
          rintro e wz ⟨rfl, Xe⟩
          have B6 := Lib.hid (B6.out.ext Xe)
          have B7 := Lib.hid (B7.out.ext Xe)
          have B9 := Lib.hid (B9.out.ext Xe)
          have B10 := Lib.hid (B10.out.ext Xe)
          have Xe : Hid (Ext wr wz) := (Xc.out.trans Xd.out).trans Xe
          have WSZ : Hid (w3.heap.size ≤ wz.heap.size) := by have := Y.out.size; have := Xe.out.size; show _ ≤ _; omega
          have HBB : Hid (w3.heap.size ≤ g2) := hB2
          have WBB : Hid (w3.heap.size ≤ wb.heap.size) := by have := Y.out.size; have := Xc.out.size; show _ ≤ _; omega
          have HG : Hid (g2 < wb.heap.size) := Nat.lt_of_lt_of_le HR.out.lt Xc.out.size
          clear co sa sb Xd l6 l10
          generalize hcf : cmpB (fromB s) (toB x) = cf at JJ ⊢
          clear hcf
          by_cases hc0 : cf ≤ 0
          · have JJ : Hid (cleanF (ts.take (j + 1)) = outs.set m (madeS (fromB x) (if 0 < cmpB (toB s) (toB x) then toB s else toB x))) := by show _ = _; rw [JJ.out, if_pos hc0]
            have l7 := B7.out.load
            have l10 := B10.out.load
            have co := Lib.hid (compare_any (toB s) (toB x) wz)
            unfold bdV at co
            go_wp2_with fail
            refine co.out.mono ?_
            rintro e wd ⟨rfl, Xf⟩
            have B7 := Lib.hid (B7.out.ext Xf)
            have B9 := Lib.hid (B9.out.ext Xf)
            have B10 := Lib.hid (B10.out.ext Xf)
            have Xg : Hid (Ext wr wd) := Xe.out.trans Xf
            have WSZ : Hid (w3.heap.size ≤ wd.heap.size) := by have := Y.out.size; have := Xg.out.size; show _ ≤ _; omega
            clear co l7 l10 Xe
            generalize hcf : cmpB (toB s) (toB x) = ct at JJ ⊢
            clear hcf
            go_upto_if 47 with fail
            go_cut [] (fun wx => Aside (BdAt wx wb.heap.size (fromB x)) ∧ Aside (BdAt wx (wb.heap.size + 1) (if 0 < ct then toB s else toB x)) ∧ Aside (Chg (fun i => i = wb.heap.size + 1) wd wx))
            case first =>
              by_cases hct : 0 < ct
              · obtain ⟨we, e1, K1, C1⟩ := B10.out.put (toB s)
                have K1 := Lib.hid K1
                have C1 := Lib.hid C1
                have l7 := B7.out.load
                go_wp2_with fail
                go_meet
                exact ⟨B9.out.chg C1.out (by omega), by rw [if_pos hct]; exact K1.out, C1.out⟩
              · go_wp2_with fail
                go_meet
                exact ⟨B9.out, by rw [if_neg (by omega)]; exact B10.out, Chg.refl _ _⟩
            case rest =>
              obtain ⟨K9, K10, CC⟩ := hcut
              have JJ := JJ
              generalize (if 0 < ct then toB s else toB x) = tt at K10 JJ
              have l9 := K9.out.load
              have l10 := K10.out.load
              have CW : Hid (Chg (fun i => i = wb.heap.size + 1) wr wc) := (Xg.out.chg _).trans CC.out (fun _ _ h => h)
              have ma := Lib.hid (made_any (fromB x) tt wc)
              unfold spanV bdV at ma
              go_wp2_with fail
              refine ma.out.mono ?_
              rintro e w8 ⟨rfl, X8⟩
              have R8 := (HR.out.chg CW.out (by have := HG.out; omega)).ext X8
              obtain ⟨w9, e9, R9, C9⟩ := R8.put (show m < outs.length by have := HM.out; omega) (madeS (fromB x) tt)
              have R9 := Lib.hid R9
              have C9 : Hid (Chg (fun _ => False) w3 w9) := by
                have a : Chg (fun i => i = wb.heap.size + 1 ∨ i = g2) wr w9 := ((CW.out.mono (fun _ _ h => .inl h)).trans (X8.chg fun _ => False) (fun _ _ h => h.elim)).trans C9 (fun _ _ h => .inr h)
                refine Y.out.trans a (fun i hi h => ?_)
                have := Y.out.size
                have := HG.out
                have := HBB.out
                have := WBB.out
                omega
              clear ma l9 l10
              go_wp2
              go_roundg (n - (j + 1))
              case measure => omega
              case rel =>
                refine ⟨j + 1, by go_num, by omega, Nat.le_refl _, ?_, C9.out⟩
                show World.ownsRow _ _ _ _ _ _ _
                rw [JJ.out]
                have := row_own (B := w3.heap.size) R9.out hc2 HBB.out
                rw [List.length_set, HM.out] at this ⊢
                exact this
          · have JJ : Hid (cleanF (ts.take (j + 1)) = outs ++ [madeS (fromB s) (toB s)]) := by show _ = _; rw [JJ.out, if_neg hc0]
            have l6 := B6.out.load
            have l7 := B7.out.load
            have ma := Lib.hid (made_any (fromB s) (toB s) wz)
            unfold spanV bdV at ma
            go_wp2_with fail
            refine ma.out.mono ?_
            rintro e w5 ⟨rfl, X5⟩
            have X5 := Lib.hid X5
            clear ma
            have OW : Hid (World.ownsRow (w5.alloc (.cells (spanCells (madeS (fromB s) (toB s))).toArray 28)) w3.heap.size 28 49 (.slice (some ⟨g2, 0, none⟩) (m + 1) cap2) (m + 1) (flat spanCells outs)) := by
              have a := ((Xe.out.trans X5.out).alloc (.cells (spanCells (madeS (fromB s) (toB s))).toArray 28)).chg (fun _ => False) |>.owns OWN.out (fun _ _ h => h)
              rw [HM.out] at a
              exact a
            have N1 : Hid ((spanCells (madeS (fromB s) (toB s))).length = 1 * 49) := spanCells_length _
            have N2 : Hid (∀ ad, some (⟨w5.heap.size, 0, none⟩ : Addr) = some ad → ∀ j u, (spanCells (madeS (fromB s) (toB s)))[j]? = some u → (w5.alloc (.cells (spanCells (madeS (fromB s) (toB s))).toArray 28)).cell? (ad.add j) = some u) := by
              rintro ad e j u hj
              cases e
              rw [Addr.add_lit]
              exact cellsAt_new w5 (spanCells (madeS (fromB s) (toB s))) 28 j u hj
            go_wp2_with (at_builtin; refine wpList_append_any rfl _ _ 22 rfl w3.heap.size 28 i0 (.agg (spanCells zeroSp).toArray) 49 49 Try.underlying22 hi hz0 hz1 hz2 rfl (by decide) _ _ _ rfl OW.out (some ⟨w5.heap.size, 0, none⟩) 1 1 (spanCells (madeS (fromB s) (toB s))) rfl N1.out (fun h => by cases h) N2.out (spanCells_one _) ?c1 ?c2 ?c3 ?_)
            case c1 => have := ML.out; have := HM.out; unfold maxLen; omega
            case c2 => have := ML.out; have := HM.out; omega
            case c3 => have h5 := X5.out.size; have := WSZ.out; simp only [World.size_alloc] at h5 ⊢; omega
            intro v6 w6 own6 ch6
            have own6 := Lib.hid own6
            have C6 : Hid (Chg (fun _ => False) w3 w6) := by
              have a : Chg (fun _ => False) w3 (w5.alloc (.cells (spanCells (madeS (fromB s) (toB s))).toArray 28)) := ((Y.out.trans (Xe.out.chg fun _ => False) (fun _ _ h => h)).trans (X5.out.chg fun _ => False) (fun _ _ h => h)).trans (chg_alloc _ _ _) (fun _ _ h => h)
              exact a.trans ch6 (fun i hi h => absurd hi (by omega))
            clear N1 N2 OW ch6
            go_wp2
            go_roundg (n - (j + 1))
            case measure => omega
            case rel => exact ⟨j + 1, by go_num, by omega, Nat.le_refl _, by show World.ownsRow _ _ _ _ _ _ _; rw [JJ.out]; rw [List.length_append, flat_append, HM.out]; simpa [flat] using own6.out, C6.out⟩
        · have e0 : outs = [] := List.eq_nil_of_length_eq_zero (by omega)
          subst e0
          have la := fun x y => (two_load x y wa).1
          have lb := fun x y => (two_load x y wa).2
          have JN : Hid (cleanF (ts.take (j + 1)) = [madeS (fromB s) (toB s)]) := by show _ = _; rw [JS.out, joinS_nil]
          clear hm
          rcases owns_shape OWN.out with ⟨rfl, _⟩ | ⟨g4, cap4, rfl, _⟩
          · have ma := Lib.hid (made_any (fromB s) (toB s) ((wa.alloc (.cells (bdCells (fromB s)).toArray 43)).alloc (.cells (bdCells (toB s)).toArray 43)))
            unfold spanV bdV at ma
            go_wp2_with fail
            refine ma.out.mono ?_
            rintro e w5 ⟨rfl, X5⟩
            have X5 := Lib.hid X5
            clear ma
            have OW := Lib.hid (((Xb.out.trans X5.out).alloc (.cells (spanCells (madeS (fromB s) (toB s))).toArray 28)).chg (fun _ => False) |>.owns OWN.out (fun _ _ h => h))
            have N1 : Hid ((spanCells (madeS (fromB s) (toB s))).length = 1 * 49) := spanCells_length _
            have N2 : Hid (∀ ad, some (⟨w5.heap.size, 0, none⟩ : Addr) = some ad → ∀ j u, (spanCells (madeS (fromB s) (toB s)))[j]? = some u → (w5.alloc (.cells (spanCells (madeS (fromB s) (toB s))).toArray 28)).cell? (ad.add j) = some u) := by
              rintro ad e j u hj
              cases e
              rw [Addr.add_lit]
              exact cellsAt_new w5 (spanCells (madeS (fromB s) (toB s))) 28 j u hj
            go_wp2_with (at_builtin; refine wpList_append_any rfl _ _ 22 rfl w3.heap.size 28 i0 (.agg (spanCells zeroSp).toArray) 49 49 Try.underlying22 hi hz0 hz1 hz2 rfl (by decide) _ _ _ rfl OW.out (some ⟨w5.heap.size, 0, none⟩) 1 1 (spanCells (madeS (fromB s) (toB s))) rfl N1.out (fun h => by cases h) N2.out (spanCells_one _) ?c1 ?c2 ?c3 ?_)
            case c1 => have := ML.out; unfold maxLen; omega
            case c2 => have := ML.out; omega
            case c3 => have := HSZ.out; have h5 := X5.out.size; simp only [World.size_alloc] at h5 ⊢; omega
            intro v6 w6 own6 ch6
            have own6 := Lib.hid own6
            have C6 : Hid (Chg (fun _ => False) w3 w6) := by
              have a : Chg (fun _ => False) w3 (w5.alloc (.cells (spanCells (madeS (fromB s) (toB s))).toArray 28)) := ((Y.out.trans (Xb.out.chg fun _ => False) (fun _ _ h => h)).trans (X5.out.chg fun _ => False) (fun _ _ h => h)).trans (chg_alloc _ _ _) (fun _ _ h => h)
              exact a.trans ch6 (fun i hi h => absurd hi (by omega))
            clear N1 N2 OW ch6
            go_wp2
            go_roundg (n - (j + 1))
            case measure => omega
            case rel => exact ⟨j + 1, by go_num, by omega, Nat.le_refl _, by show World.ownsRow _ _ _ _ _ _ _; rw [JN.out]; simpa [flat_append, flat] using own6.out, C6.out⟩
          · have ma := Lib.hid (made_any (fromB s) (toB s) ((wa.alloc (.cells (bdCells (fromB s)).toArray 43)).alloc (.cells (bdCells (toB s)).toArray 43)))
            unfold spanV bdV at ma
            go_wp2_with fail
            refine ma.out.mono ?_
            rintro e w5 ⟨rfl, X5⟩
            have X5 := Lib.hid X5
            clear ma
            have OW := Lib.hid (((Xb.out.trans X5.out).alloc (.cells (spanCells (madeS (fromB s) (toB s))).toArray 28)).chg (fun _ => False) |>.owns OWN.out (fun _ _ h => h))
            have N1 : Hid ((spanCells (madeS (fromB s) (toB s))).length = 1 * 49) := spanCells_length _
            have N2 : Hid (∀ ad, some (⟨w5.heap.size, 0, none⟩ : Addr) = some ad → ∀ j u, (spanCells (madeS (fromB s) (toB s)))[j]? = some u → (w5.alloc (.cells (spanCells (madeS (fromB s) (toB s))).toArray 28)).cell? (ad.add j) = some u) := by
              rintro ad e j u hj
              cases e
              rw [Addr.add_lit]
              exact cellsAt_new w5 (spanCells (madeS (fromB s) (toB s))) 28 j u hj
            go_wp2_with (at_builtin; refine wpList_append_any rfl _ _ 22 rfl w3.heap.size 28 i0 (.agg (spanCells zeroSp).toArray) 49 49 Try.underlying22 hi hz0 hz1 hz2 rfl (by decide) _ _ _ rfl OW.out (some ⟨w5.heap.size, 0, none⟩) 1 1 (spanCells (madeS (fromB s) (toB s))) rfl N1.out (fun h => by cases h) N2.out (spanCells_one _) ?c1 ?c2 ?c3 ?_)
            case c1 => have := ML.out; unfold maxLen; omega
            case c2 => have := ML.out; omega
            case c3 => have := HSZ.out; have h5 := X5.out.size; simp only [World.size_alloc] at h5 ⊢; omega
            intro v6 w6 own6 ch6
            have own6 := Lib.hid own6
            have C6 : Hid (Chg (fun _ => False) w3 w6) := by
              have a : Chg (fun _ => False) w3 (w5.alloc (.cells (spanCells (madeS (fromB s) (toB s))).toArray 28)) := ((Y.out.trans (Xb.out.chg fun _ => False) (fun _ _ h => h)).trans (X5.out.chg fun _ => False) (fun _ _ h => h)).trans (chg_alloc _ _ _) (fun _ _ h => h)
              exact a.trans ch6 (fun i hi h => absurd hi (by omega))
            clear N1 N2 OW ch6
            go_wp2
            go_roundg (n - (j + 1))
            case measure => omega
            case rel => exact ⟨j + 1, by go_num, by omega, Nat.le_refl _, by show World.ownsRow _ _ _ _ _ _ _; rw [JN.out]; simpa [flat_append, flat] using own6.out, C6.out⟩
      · obtain rfl : j = n := by omega
        have e : ts.take j = ts := List.take_of_length_le (by have := HN.out; omega)
        rw [e] at OWN
        go_wp2
        go_ret
        have C : Chg (fun _ => False) w wr := X3.out.trans Y.out (fun _ _ h => h)
        exact ⟨_, ts, rfl, PT.out, ST.out, owns_mono OWN.out X3.out.size, C⟩
end Go.Proofs.Ytfeomnkgkppdlaa
