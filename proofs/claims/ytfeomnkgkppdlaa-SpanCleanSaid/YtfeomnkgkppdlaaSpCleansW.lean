/- The walk of SpanClean. -/
import Derived.Test.YtfeomnkgkppdlaaSpCleansA
import Derived.Deep.QuietTactic
import Derived.BigQuiet
import Derived.Deep.RegionHeld3
import Derived.Deep.LoopGhost
set_option linter.unusedVariables false
set_option linter.unusedSimpArgs false
namespace Go.Proofs.Ytfeomnkgkppdlaa
open Go Go.RowKit Go.Sort Go.Lib
attribute [local go_sem ↓] run_size24 run_size49 run_size25
attribute [local simp high] run_size24x run_size49x run_size25x
attribute [local go_sem ↓] to_span1 to_span2 to_span3 to_key1 to_spans1 to_keys1 to_bd0 to_bd1 to_spans2 to_key0
attribute [local simp] is_bFrEn is_bTo is_bEn is_bFrTo is_bSpans1 is_bKeys1 run_bFrEn run_bTo run_bEn run_bFrTo run_bSpans1 run_bKeys1 is_bBdKey is_bBdEn is_bSp3 run_bBdKey run_bBdEn run_bBd0 run_bSp3 is_bSpans2 run_bSpans2 run_bKey0

theorem wrap_small (n k : Int) (h1 : -1000 ≤ n) (h2 : n ≤ 1000) (e : n = k) : IntKind.i64.wrap n = k := by
  subst e; rw [IntKind.wrap_i64]; omega
set_option maxHeartbeats 8000000 in
set_option maxRecDepth 100000 in
theorem cleans_any (v0 : Value) (s0 : List Sp) (w : World) (h0 : SpansIn w v0 s0) :
    Calls Try.prog 3 #[v0] w fun e w' => e = .returned (.bool true) ∧ Chg (fun _ => False) w w' := by
  have mixed := Try.mixed
  obtain ⟨i0, hi, hz0, hz1, hz2⟩ := info_parts info28
  have k1 : ¬ K24 = 0 := by decide
  have k2 : ¬ K49 = 0 := by decide
  have H0 := Lib.hid h0
  clear h0
  have sh := Lib.hid (shown_any w)
  go_enter Try.func3, Try.ntmps3
  go_wp2_with fail
  refine sh.out.mono ?_
  rintro e w1 ⟨rfl, X1⟩
  have Y1 := Lib.hid X1
  have cu := Lib.hid (cut_of v0 s0 w1 (H0.out.chg X1 (fun _ _ h => h)))
  clear sh X1 H0
  go_wp2_with fail
  refine cu.out.mono ?_
  rintro e w2 ⟨va, rfl, O2, X2⟩
  have la : Hid ((s0.take 30).length ≤ 30) := by show _ ≤ _; rw [List.length_take]; omega
  generalize s0.take 30 = a at O2 la
  have S2 := Lib.hid (spansIn_own O2)
  have Y2 : Hid (Chg (fun _ => False) w w2) := Y1.out.trans X2 (fun _ _ h => h)
  have q3 := Lib.hid (clean_spans va a w2 S2.out (by have := la.out; omega))
  clear cu O2 X2 Y1
  go_wp2_with fail
  refine q3.out.mono ?_
  rintro e w3 ⟨vc, c, rfl, CC, C3, X3⟩
  have TC := Lib.hid (tells_clean CC)
  have lc : Hid (c.length ≤ 30) := by show _ ≤ _; have := CC.length; have := la.out; omega
  have S3 := Lib.hid (S2.out.chg X3 (fun _ _ h => h))
  have C3' := Lib.hid C3
  have Y3 : Hid (Chg (fun _ => False) w w3) := Y2.out.trans X3 (fun _ _ h => h)
  clear q3 CC C3 X3 S2 Y2
  -- the first loop: back
  obtain ⟨pa, ka, rfl⟩ := S3.out.length
  obtain ⟨pc, kc, rfl⟩ := C3'.out.length
  have ln := la.out
  have lm := lc.out
  generalize hn : a.length = n at S3 ln
  generalize hm : c.length = m at C3' lm
  have HN := Lib.hid hn
  have HM := Lib.hid hm
  clear hn hm la lc
  go_wp2
  go_loopg [6, 5] n (fun kx s6 s5 wr => ∃ (j : Nat) (z : Int) (outs : List Sp) (v5 : Value), s6 = .int .i64 z ∧ v5 = s5 ∧ z + 1 = (j : Int) ∧ j ≤ n ∧ j ≤ kx ∧ outs.length + 2 * j = 2 * n ∧ Aside (∀ t, mem t (NL outs) ↔ mem t (NL (a.drop j))) ∧ Aside (wr.ownsRow w3.heap.size 28 49 v5 outs.length (flat spanCells outs)) ∧ Aside (Chg (fun _ => False) w3 wr))
  case atStart =>
    exact ⟨n, _, [], _, rfl, rfl, by omega, Nat.le_refl _, Nat.le_refl _, by simp, fun t => by rw [List.drop_of_length_le (by rw [HN.out]; exact Nat.le_refl _)], ⟨rfl, .inl ⟨rfl, rfl⟩⟩, Chg.refl _ _⟩
  case round =>
    obtain ⟨j, z, outs, v5, rfl, rfl, hz, hjn, hg, hol, ME, OWN, Y⟩ := hrel
    cases j with
    | succ j =>
      obtain rfl : z = (j : Int) := by omega
      clear hz
      have hj : j < a.length := by have := HN.out; omega
      have z1 : (j : Int) < (n : Int) := by omega
      have z2 : (0 : Int) ≤ (j : Int) := by omega
      obtain ⟨x, hx⟩ : ∃ x, x = a[j] := ⟨_, rfl⟩
      obtain ⟨b, o, d1, e1, L1⟩ := S3.out.loads (by omega)
      simp only [Value.slice.injEq] at e1
      obtain ⟨rfl, h1, rfl⟩ := e1
      clear h1
      have hb : b < w3.heap.size := (L1 j hj).lt (fun e => by have := spanCells_length a[j]; rw [e] at this; simp at this)
      have BY : Hid (Beyond w3.heap.size wr wr.drew) := (Ext.refl wr).drew.chg _
      have l1 : ∀ W, Beyond w3.heap.size wr W → Sem.run Try.prog (loadCellsFrom ⟨b, o + j * K49, none⟩ 0 K49 #[]) W = .ok (spanCells x).toArray W := fun W h => by
        rw [hx]; exact (Chg.cells h (Y.out.cells (L1 j hj) id) (by omega)).load _ K49 (spanCells_length _)
      have KA : Hid (∀ W o, Beyond w3.heap.size wr W → Beyond w3.heap.size wr (W.alloc o)) := fun W o h => h.step (((Ext.refl W).alloc o).chg _)
      have KG : Hid (∀ W w', Beyond w3.heap.size wr W → W.grownBy w' v5.ownBlock → Beyond w3.heap.size wr w') := fun W w' h g => h.step (g.chg.mono fun i _ hi => (OWN.out.lt i hi).1)
      have OW := Lib.hid (((Ext.refl wr).drew.alloc (.cells (spanCells x ++ spanCells x).toArray 28)).chg (fun _ => False) |>.owns OWN.out (fun _ _ h => h))
      have NW : Hid (∀ t u, (spanCells x ++ spanCells x)[t]? = some u → (wr.drew.alloc (.cells (spanCells x ++ spanCells x).toArray 28)).cell? ((⟨wr.heap.size, 0, none⟩ : Addr).add t) = some u) := news_at (cellsAt_new wr.drew (spanCells x ++ spanCells x) 28)
      have N1 : Hid ((spanCells x ++ spanCells x).length = 2 * 49) := by show _ = _; rw [List.length_append, spanCells_length]
      have N3 : Hid (∀ u ∈ spanCells x ++ spanCells x, u.oneCell' = true) := fun u hu => (List.mem_append.1 hu).elim (spanCells_one x u) (spanCells_one x u)
      have C1 : Hid (outs.length + 2 ≤ maxLen) := by show _ ≤ _; unfold maxLen; omega
      have C2 : Hid ((outs.length + 2) * 49 ≤ 140737488355328) := by show _ ≤ _; omega
      have C3 : Hid (w3.heap.size ≤ (wr.drew.alloc (.cells (spanCells x ++ spanCells x).toArray 28)).heap.size) := by show _ ≤ _; have := Y.out.size; simp; omega
      have C4 : Hid ((wr.drew.alloc (.cells (spanCells x ++ spanCells x).toArray 28)).heap.size = wr.heap.size + 1) := by show _ = _; simp
      have HX := Lib.hid hx
      clear L1 hx
      go_wp2
      go_region_held3 (fun w' => Beyond w3.heap.size wr w') (first | assumption | exact BY.out | exact KA.out _ _ (by assumption) | exact KG.out _ _ (by assumption) hgrow)
        ((refine step_append_lies _ (by rfl) _ _ 22 (by rfl) w3.heap.size 28 i0 (.agg (spanCells zeroSp).toArray) 49 49 Try.underlying22 hi hz0 hz1 hz2 rfl (by decide) v5 outs.length (flat spanCells outs) (by rfl) OW.out ⟨wr.heap.size, 0, none⟩ 2 2 (spanCells x ++ spanCells x) (by rfl) N1.out NW.out N3.out (by decide) C1.out C2.out C3.out _ C4.out ?_; intro g cap wq hown hgrow hat hlt))
      go_wp2
      go_roundg j
      case measure => omega
      case rel =>
        refine ⟨j, _, outs ++ [x, x], _, rfl, rfl, by omega, by omega, Nat.le_refl _, by rw [List.length_append]; simp; omega, by rw [HX.out]; exact mem_twins a outs j hj ME.out, ?_, Y.out.trans (KG.out _ _ (KA.out _ _ BY.out) hgrow) (fun i hi h => absurd hi (by omega))⟩
        show wq.ownsRow _ 28 49 _ (outs ++ [x, x]).length (flat spanCells (outs ++ [x, x]))
        rw [flat_append, flat_two, List.length_append]
        exact hown
    | zero =>
      obtain rfl : z = -1 := by omega
      have z0 : ((0 : Int) ≤ -1) = False := by simp
      have SB := Lib.hid (spansIn_own OWN.out)
      have ME : Hid (∀ t, mem t (NL outs) ↔ mem t (NL a)) := ME.out
      have lb : Hid (outs.length ≤ 60) := by show _ ≤ _; omega
      have CR := Lib.hid (C3'.out.chg Y.out (fun _ _ h => h))
      have YR : Hid (Chg (fun _ => False) w wr) := Y3.out.trans Y.out (fun _ _ h => h)
      clear OWN Y Y3 C3' S3 hol hz hjn hg z0
      go_wp2
      go_loopg [7] m (fun kx s7 wx => ∃ i : Nat, s7 = .int .i64 i ∧ i ≤ m ∧ m - i ≤ kx ∧ Aside (Ext wr wx))
      case atStart => exact ⟨0, rfl, Nat.zero_le _, by omega, Ext.refl _⟩
      case round =>
        obtain ⟨i, rfl, him, hgi, X⟩ := hrel
        by_cases hlt : i < m
        · have hi' : i < c.length := by have := HM.out; omega
          have z1 : (i : Int) < (m : Int) := by omega
          have z2 : (0 : Int) ≤ (i : Int) := by omega
          obtain ⟨b, o, d1, e1, L1⟩ := CR.out.loads (by omega)
          simp only [Value.slice.injEq] at e1
          obtain ⟨rfl, h1, rfl⟩ := e1
          clear h1
          obtain ⟨x, hx⟩ : ∃ x, x = c[i] := ⟨_, rfl⟩
          have Cx := X.out.cells (L1 i hi')
          rw [← hx] at Cx
          have f1 : ∀ n os, (grow (wr.drewN n) os).cell? ⟨b, o + i * K49 + 48, none⟩ = some (.bool x.en) := fun n os => spanEn (Cx.grow n os)
          have f2 : ∀ n os, Sem.run Try.prog (loadCellsFrom ⟨b, o + i * K49, none⟩ 0 K24 #[]) (grow (wr.drewN n) os) = .ok (keyCells x.fr).toArray (grow (wr.drewN n) os) := fun n os => (spanFr (Cx.grow n os)).load _ K24 (keyCells_length _)
          have f3 : ∀ n os, Sem.run Try.prog (loadCellsFrom ⟨b, o + i * K49 + 24, none⟩ 0 K24 #[]) (grow (wr.drewN n) os) = .ok (keyCells x.to).toArray (grow (wr.drewN n) os) := fun n os => (spanTo (Cx.grow n os)).load _ K24 (keyCells_length _)
          have LX := Lib.hid (clean_less TC.out.1 i hi')
          have LE := Lib.hid (clean_last TC.out.1 i hi')
          have NX := Lib.hid (TC.out.2.1 c[i] (List.getElem_mem hi'))
          rw [← hx] at LX LE NX
          have HX := Lib.hid hx
          replace Cx := Lib.hid Cx
          replace L1 := Lib.hid L1
          clear hx
          cases he : x.en with
          | false =>
            rw [he] at f1
            have lt1 := LX.out he
            have LS : Hid (∀ n os, Calls Try.prog 13 #[.agg (keyCells x.fr).toArray, .agg (keyCells x.to).toArray] (grow (wr.drewN n) os) fun e w' => e = .returned (.bool true) ∧ Ext (grow (wr.drewN n) os) w') := fun n os => by
              have := less13_any x.fr x.to (grow (wr.drewN n) os)
              rw [lt1] at this
              exact this
            clear lt1 he
            go_wp2
            refine wp_region_quiet_grown (by assumption) (by kernel_rfl) ?_
            repeat (with_reducible refine wpQuiet_step ?_; intro K hK; first | (go_simp; refine hK _ ?_; clear hK K) | (go_simp; simp only [undef, reduceCtorEq, ↓reduceIte]; refine hK _ ?_; clear hK K) | (go_simp; apply Exists.intro; refine ⟨fun _ => ?_, hK _ ?_⟩; (go_at_call 13; exact Calls.grown_ext (LS.out _ _)); clear hK K))
            with_reducible refine wpQuiet_nil ?_
            intro _ hw'
            obtain ⟨⟨nq, osq⟩, hw''⟩ := hw'
            subst hw''
            clear LS f1 f2 f3
            have Xy : Hid (Ext wr (grow (wr.drewN nq) osq)) := (Ext.refl wr).grow nq osq
            generalize grow (wr.drewN nq) osq = wy at Xy ⊢
            by_cases hi0 : i = 0
            · have z3 : (0 < i) = False := by simp; omega
              clear hi0
              go_wp2
              refine wp_region_quiet_grown (by assumption) (by kernel_rfl) ?_
              repeat (with_reducible refine wpQuiet_step ?_; intro K hK; first | (go_simp; refine hK _ ?_; clear hK K) | (go_simp; simp only [undef, reduceCtorEq, ↓reduceIte]; refine hK _ ?_; clear hK K) | (go_simp; apply Exists.intro; refine ⟨fun _ => ?_, hK _ ?_⟩; (fail); clear hK K))
              with_reducible refine wpQuiet_nil ?_
              intro _ hw'
              obtain ⟨⟨nq, osq⟩, hw''⟩ := hw'
              subst hw''
              go_wp2
              go_roundg (m - (i + 1))
              case measure => omega
              case rel => exact ⟨i + 1, by go_num, by omega, Nat.le_refl _, (X.out.trans Xy.out).grow nq osq⟩
            · obtain ⟨p, hp⟩ : ∃ p, i = p + 1 := ⟨i - 1, by omega⟩
              have z3 : 0 < i := by omega
              have z4 : IntKind.i64.wrap ((i : Int) - 1) = (p : Int) := wrap_small _ _ (by omega) (by omega) (by omega)
              have z5 : (p : Int) < (m : Int) := by omega
              have z6 : (0 : Int) ≤ (p : Int) := by omega
              have hp' : p < c.length := by omega
              obtain ⟨y, hy⟩ : ∃ y, y = c[p] := ⟨_, rfl⟩
              have lt1 : ltK y.to x.fr = true := by
                have := clean_gap TC.out.1 p (by omega)
                rw [hy, HX.out]
                simpa [hp] using this
              have g2 : ∀ n os, Sem.run Try.prog (loadCellsFrom ⟨b, o + i * K49, none⟩ 0 K24 #[]) (grow (wy.drewN n) os) = .ok (keyCells x.fr).toArray (grow (wy.drewN n) os) := fun n os => (spanFr ((Xy.out.grow n os).cells Cx.out)).load _ K24 (keyCells_length _)
              have g3 : ∀ n os, Sem.run Try.prog (loadCellsFrom ⟨b, o + p * K49 + 24, none⟩ 0 K24 #[]) (grow (wy.drewN n) os) = .ok (keyCells y.to).toArray (grow (wy.drewN n) os) := fun n os => by
                rw [hy]; exact (spanTo (((X.out.trans Xy.out).grow n os).cells (L1.out p hp'))).load _ K24 (keyCells_length _)
              have LS : Hid (∀ n os, Calls Try.prog 13 #[.agg (keyCells y.to).toArray, .agg (keyCells x.fr).toArray] (grow (wy.drewN n) os) fun e w' => e = .returned (.bool true) ∧ Ext (grow (wy.drewN n) os) w') := fun n os => by
                have := less13_any y.to x.fr (grow (wy.drewN n) os)
                rw [lt1] at this
                exact this
              have HP := Lib.hid hp
              clear lt1 hy hp hi0
              go_wp2
              refine wp_region_quiet_grown (by assumption) (by kernel_rfl) ?_
              repeat (with_reducible refine wpQuiet_step ?_; intro K hK; first | (go_simp; refine hK _ ?_; clear hK K) | (go_simp; simp only [undef, reduceCtorEq, ↓reduceIte]; refine hK _ ?_; clear hK K) | (go_simp; apply Exists.intro; refine ⟨fun _ => ?_, hK _ ?_⟩; (go_at_call 13; exact Calls.grown_ext (LS.out _ _)); clear hK K))
              with_reducible refine wpQuiet_nil ?_
              intro _ hw'
              obtain ⟨⟨nq, osq⟩, hw''⟩ := hw'
              subst hw''
              go_wp2
              go_roundg (m - (i + 1))
              case measure => omega
              case rel => exact ⟨i + 1, by go_num, by omega, Nat.le_refl _, (X.out.trans Xy.out).grow nq osq⟩
          | true =>
            rw [he] at f1
            have z7 : IntKind.i64.wrap ((m : Int) - 1) = (i : Int) := wrap_small _ _ (by omega) (by omega) (by have := LE.out he; have := HM.out; omega)
            have nx := NX.out he
            rw [nx] at f3
            have eqk := fun w => run_eq_key zeroKey zeroKey w
            simp only [decide_true] at eqk
            have hgd : Try.prog.eqGuardType Try.prog.depth 26 = false := by kernel_rfl
            clear nx he f2
            go_wp2
            refine wp_region_quiet_grown (by assumption) (by kernel_rfl) ?_
            repeat (with_reducible refine wpQuiet_step ?_; intro K hK; first | (go_simp; refine hK _ ?_; clear hK K) | (go_simp; simp only [undef, reduceCtorEq, ↓reduceIte]; refine hK _ ?_; clear hK K) | (go_simp; apply Exists.intro; refine ⟨fun _ => ?_, hK _ ?_⟩; (fail); clear hK K))
            with_reducible refine wpQuiet_nil ?_
            intro _ hw'
            obtain ⟨⟨nq, osq⟩, hw''⟩ := hw'
            subst hw''
            clear f1 f3
            have Xy : Hid (Ext wr (grow (wr.drewN nq) osq)) := (Ext.refl wr).grow nq osq
            generalize grow (wr.drewN nq) osq = wy at Xy ⊢
            by_cases hi0 : i = 0
            · have z3 : (0 < i) = False := by simp; omega
              clear hi0
              go_wp2
              refine wp_region_quiet_grown (by assumption) (by kernel_rfl) ?_
              repeat (with_reducible refine wpQuiet_step ?_; intro K hK; first | (go_simp; refine hK _ ?_; clear hK K) | (go_simp; simp only [undef, reduceCtorEq, ↓reduceIte]; refine hK _ ?_; clear hK K) | (go_simp; apply Exists.intro; refine ⟨fun _ => ?_, hK _ ?_⟩; (fail); clear hK K))
              with_reducible refine wpQuiet_nil ?_
              intro _ hw'
              obtain ⟨⟨nq, osq⟩, hw''⟩ := hw'
              subst hw''
              go_wp2
              go_roundg (m - (i + 1))
              case measure => omega
              case rel => exact ⟨i + 1, by go_num, by omega, Nat.le_refl _, (X.out.trans Xy.out).grow nq osq⟩
            · obtain ⟨p, hp⟩ : ∃ p, i = p + 1 := ⟨i - 1, by omega⟩
              have z3 : 0 < i := by omega
              have z4 : IntKind.i64.wrap ((i : Int) - 1) = (p : Int) := wrap_small _ _ (by omega) (by omega) (by omega)
              have z5 : (p : Int) < (m : Int) := by omega
              have z6 : (0 : Int) ≤ (p : Int) := by omega
              have hp' : p < c.length := by omega
              obtain ⟨y, hy⟩ : ∃ y, y = c[p] := ⟨_, rfl⟩
              have lt1 : ltK y.to x.fr = true := by
                have := clean_gap TC.out.1 p (by omega)
                rw [hy, HX.out]
                simpa [hp] using this
              have g2 : ∀ n os, Sem.run Try.prog (loadCellsFrom ⟨b, o + i * K49, none⟩ 0 K24 #[]) (grow (wy.drewN n) os) = .ok (keyCells x.fr).toArray (grow (wy.drewN n) os) := fun n os => (spanFr ((Xy.out.grow n os).cells Cx.out)).load _ K24 (keyCells_length _)
              have g3 : ∀ n os, Sem.run Try.prog (loadCellsFrom ⟨b, o + p * K49 + 24, none⟩ 0 K24 #[]) (grow (wy.drewN n) os) = .ok (keyCells y.to).toArray (grow (wy.drewN n) os) := fun n os => by
                rw [hy]; exact (spanTo (((X.out.trans Xy.out).grow n os).cells (L1.out p hp'))).load _ K24 (keyCells_length _)
              have LS : Hid (∀ n os, Calls Try.prog 13 #[.agg (keyCells y.to).toArray, .agg (keyCells x.fr).toArray] (grow (wy.drewN n) os) fun e w' => e = .returned (.bool true) ∧ Ext (grow (wy.drewN n) os) w') := fun n os => by
                have := less13_any y.to x.fr (grow (wy.drewN n) os)
                rw [lt1] at this
                exact this
              have HP := Lib.hid hp
              clear lt1 hy hp hi0
              go_wp2
              refine wp_region_quiet_grown (by assumption) (by kernel_rfl) ?_
              repeat (with_reducible refine wpQuiet_step ?_; intro K hK; first | (go_simp; refine hK _ ?_; clear hK K) | (go_simp; simp only [undef, reduceCtorEq, ↓reduceIte]; refine hK _ ?_; clear hK K) | (go_simp; apply Exists.intro; refine ⟨fun _ => ?_, hK _ ?_⟩; (go_at_call 13; exact Calls.grown_ext (LS.out _ _)); clear hK K))
              with_reducible refine wpQuiet_nil ?_
              intro _ hw'
              obtain ⟨⟨nq, osq⟩, hw''⟩ := hw'
              subst hw''
              go_wp2
              go_roundg (m - (i + 1))
              case measure => omega
              case rel => exact ⟨i + 1, by go_num, by omega, Nat.le_refl _, (X.out.trans Xy.out).grow nq osq⟩
        · obtain rfl : i = m := by omega
          have SB := Lib.hid (SB.out.chg (X.out.chg fun _ => False) (fun _ _ h => h))
          have CR := Lib.hid (CR.out.chg (X.out.chg fun _ => False) (fun _ _ h => h))
          have YR : Hid (Chg (fun _ => False) w wr) := YR.out.trans (X.out.chg fun _ => False) (fun _ _ h => h)
          clear X hlt him hgi
          have lc : Hid (c.length ≤ 30) := by show _ ≤ _; have := HM.out; omega
          have q4 := Lib.hid (clean_spans _ c wr CR.out (by have := lc.out; omega))
          go_wp2_with fail
          refine q4.out.mono ?_
          rintro e w4 ⟨vd, d, rfl, ZD, SD, X4⟩
          have SD := Lib.hid SD
          have E4 : Hid (d = c) := (tells_clean ZD).unique TC.out (fun t => TC.out.2.2 t)
          have SB := Lib.hid (SB.out.chg X4 (fun _ _ h => h))
          have CR := Lib.hid (CR.out.chg X4 (fun _ _ h => h))
          have YR : Hid (Chg (fun _ => False) w w4) := YR.out.trans X4 (fun _ _ h => h)
          have ld : Hid (d.length ≤ 30) := by show _ ≤ _; rw [E4.out]; exact lc.out
          clear q4 ZD X4
          have q5 := same_of vd _ d c w4 SD.out CR.out (by have := ld.out; omega) (by have := lc.out; omega)
          rw [decide_eq_true E4.out] at q5
          have q5 := Lib.hid q5
          go_wp2_with fail
          refine q5.out.mono ?_
          rintro e w5 ⟨rfl, X5⟩
          have SB := Lib.hid (SB.out.chg X5 (fun _ _ h => h))
          have CR := Lib.hid (CR.out.chg X5 (fun _ _ h => h))
          have YR : Hid (Chg (fun _ => False) w w5) := YR.out.trans X5 (fun _ _ h => h)
          clear q5 X5 SD ld E4
          have q6 := Lib.hid (clean_spans _ outs w5 SB.out (by have := lb.out; omega))
          go_wp2_with fail
          refine q6.out.mono ?_
          rintro e w6 ⟨vf, f, rfl, ZF, SF, X6⟩
          have SF := Lib.hid SF
          have E6 : Hid (f = c) := (tells_clean ZF).unique TC.out (fun t => ME.out t)
          have CR := Lib.hid (CR.out.chg X6 (fun _ _ h => h))
          have YR : Hid (Chg (fun _ => False) w w6) := YR.out.trans X6 (fun _ _ h => h)
          have lf : Hid (f.length ≤ 30) := by show _ ≤ _; rw [E6.out]; exact lc.out
          clear q6 ZF X6
          have q7 := same_of vf _ f c w6 SF.out CR.out (by have := lf.out; omega) (by have := lc.out; omega)
          rw [decide_eq_true E6.out] at q7
          have q7 := Lib.hid q7
          go_wp2_with fail
          refine q7.out.mono ?_
          rintro e w8 ⟨rfl, X8⟩
          have YR : Hid (Chg (fun _ => False) w w8) := YR.out.trans X8 (fun _ _ h => h)
          clear q7 X8
          go_wp2
          go_ret
          exact ⟨rfl, YR.out⟩
end Go.Proofs.Ytfeomnkgkppdlaa
