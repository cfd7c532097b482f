/- does: a step on a device and on the reference's. -/
import Derived.Test.YtedcpmkfanlicaaRfPut
set_option linter.unusedVariables false
set_option linter.unusedSimpArgs false
namespace Go.Proofs.Ytedcpmkfanlicaa
open Go Go.RowKit Go.Sort Go.Lib Go.Maps Go.Deep
/-- what two devices are behind a step -/
structure Pair (w w' : World) (L : Loc) (R : Rl) (m : Nat) : Prop where
  both : ∃ s' r' R', DvIs w' L s' m ∧ RfIs w' R' r' ∧ Sim s' r' m ∧ R'.p = R.p ∧ (∀ i, RFt R' i → RFt R i ∨ w.heap.size ≤ i)
  chg : Chg (fun i => Foot L i ∨ RFt R i) w w'
section
variable {w : World} {L : Loc} {s : St} {m : Nat} {R : Rl} {r : Rf}
theorem cells_set5 {w : World} {g t : Nat} {cs : Array Value} (h : w.heap[g]? = some (.cells cs 5 (0, 0))) (v : Value) : (w.setCell ⟨g, t, none⟩ v).heap[g]? = some (.cells (cs.setIfInBounds t v) 5 (0, 0)) := heap_setCell_same w g t _ 5 _ h
set_option maxHeartbeats 4000000 in
set_option maxRecDepth 100000 in
theorem does_any (D : DvIs w L s m) (H : RfIs w R r) (h : Sim s r m) (hm : m ≤ 900) (dj : ∀ i, Foot L i → ¬ RFt R i) (o : OpV) :
    Calls Try.prog 27 #[.pointer (some ⟨L.p, 0, none⟩), .pointer (some ⟨R.p, 0, none⟩), .agg (opCells o).toArray] w fun e w' => e = .returned (.bool true) ∧ Pair w w' L R (m + 1) := by
  have D0 := Lib.hid D
  have H0 := Lib.hid H
  have SM := Lib.hid h
  have OK := Lib.hid D.okay
  have FT := Lib.hid (h.fit D.okay (by omega))
  have DJ := Lib.hid dj
  have LTD := Lib.hid D.lt
  have LTH := Lib.hid H.lt
  have E1 : Hid (Ext w (w.alloc (.cells (opCells o).toArray 30))) := (Ext.refl w).alloc _
  have CC : Hid (CellsAt (w.alloc (.cells (opCells o).toArray 30)) w.heap.size 0 (opCells o)) := cellsAt_new w (opCells o) 30
  clear D H h dj
  have eo : (opCells o).toArray = #[.int .i64 o.kind, .int .i64 o.n, .int .i64 o.c, .int .i64 o.less, .int .u64 o.mask, .int .i64 o.torn, .int .i64 o.bytes] := rfl
  rw [eo] at E1 CC ⊢
  clear eo
  go_enter Try.func27, Try.ntmps27
  go_upto_region 1 with fail
  obtain ⟨X, hX⟩ : ∃ X, X = w.heap.size := ⟨_, rfl⟩
  obtain ⟨w1, hw1⟩ : ∃ W, W = w.alloc (.cells #[.int .i64 o.kind, .int .i64 o.n, .int .i64 o.c, .int .i64 o.less, .int .u64 o.mask, .int .i64 o.torn, .int .i64 o.bytes] 30) := ⟨_, rfl⟩
  rw [← hw1, ← hX] at CC ⊢
  rw [← hw1] at E1
  have X1 : Hid (Chg (fun _ => False) w w1) := E1.out.chg _
  have D1 := Lib.hid (D0.out.ext X1.out)
  have H1 := Lib.hid (H0.out.ext X1.out)
  have XF : Hid (¬ Foot L X) := fun h => by have := LTD.out X h; omega
  have XR : Hid (¬ RFt R X) := fun h => by have := LTH.out X h; omega
  have HX := Lib.hid hX.symm
  have S1 : Hid (w1.heap.size = X + 1) := by show _ = _; rw [hw1, hX]; simp
  clear E1 hw1 hX
  have c0 : w1.cell? ⟨X, 0, none⟩ = some (.int .i64 o.kind) := CC.out 0 _ rfl
  have c1 : w1.cell? ⟨X, 1, none⟩ = some (.int .i64 o.n) := CC.out 1 _ rfl
  have c2 : w1.cell? ⟨X, 2, none⟩ = some (.int .i64 o.c) := CC.out 2 _ rfl
  have c3 : w1.cell? ⟨X, 3, none⟩ = some (.int .i64 o.less) := CC.out 3 _ rfl
  have c4 : w1.cell? ⟨X, 4, none⟩ = some (.int .u64 o.mask) := CC.out 4 _ rfl
  have c5 : w1.cell? ⟨X, 5, none⟩ = some (.int .i64 o.torn) := CC.out 5 _ rfl
  have c6 : w1.cell? ⟨X, 6, none⟩ = some (.int .i64 o.bytes) := CC.out 6 _ rfl
  clear CC
  generalize o.kind = kd at c0
  by_cases k1 : kd = 1
  · subst k1
    have C1 := Lib.hid c1
    have C3 := Lib.hid c3
    obtain ⟨nb, hnb, hnb5⟩ : ∃ nb : Nat, 512 - min (max o.less 0) 512 = (nb : Int) ∧ nb ≤ 512 := ⟨(512 - min (max o.less 0) 512).toNat, by omega, by omega⟩
    have ew : IntKind.i64.wrap (512 - min (max o.less 0) 512) = (nb : Int) := by rw [hnb]; exact wrap_in _ _ (by omega) (by omega) rfl
    have q := Lib.hid (content_any o.c w1)
    have fc := Lib.hid (full_content o.c)
    generalize content o.c = bk at q fc
    have zn : (nb : Int) ≤ 512 := by omega
    have zn0 : (0 : Int) ≤ (nb : Int) := by omega
    clear c1 c3 c4 c5 c6
    go_wp2_with fail
    refine q.out.mono ?_
    rintro e w2 ⟨rfl, LD⟩
    obtain ⟨B, X2⟩ := LD
    clear q c2 c0
    have c1 : w2.cell? ⟨X, 1, none⟩ = some (.int .i64 o.n) := X2.cell C1.out id
    have c3 : w2.cell? ⟨X, 3, none⟩ = some (.int .i64 o.less) := X2.cell C3.out id
    obtain ⟨g, hg⟩ : ∃ g, g = w1.heap.size := ⟨_, rfl⟩
    rw [← hg] at B ⊢
    have gX : Hid (g = X + 1) := hg.trans S1.out
    have B := Lib.hid B
    have X2 : Hid (Chg (fun _ => False) w w2) := X1.out.trans X2 (fun _ _ h => h)
    have D2 := Lib.hid (D0.out.ext X2.out)
    have H2 := Lib.hid (H0.out.ext X2.out)
    have gF : Hid (¬ Foot L g) := fun h => by have := LTD.out g h; have := gX.out; have := HX.out; omega
    have gR : Hid (¬ RFt R g) := fun h => by have := LTH.out g h; have := gX.out; have := HX.out; omega
    have cv := conv_part fc.out hnb5 w2 g (cellsAt_blk B.out)
    have bd := SM.out.bounds OK.out
    have q := Lib.hid (writeR_any H2.out FT.out o.n (strOfNums (bk.take nb)) (by omega) (by omega))
    have SX := Lib.hid (SM.out.part OK.out o.n fc.out nb hnb5)
    generalize strOfNums (bk.take nb) = sv at cv q SX
    clear hg bd C1 C3
    have C1 := Lib.hid c1
    go_wp2_with fail
    refine q.out.mono ?_
    rintro e w3 ⟨rfl, R', H3, G3⟩
    have H3 := Lib.hid H3
    have G3 := Lib.hid G3
    have D3 := Lib.hid (D2.out.chg G3.out.chg DJ.out)
    have B3 : Hid (w3.heap[g]? = some (.cells (blkCells bk).toArray 5 (0, 0))) := by show _ = _; rw [G3.out.chg.block g (blk_lt B.out) gR.out]; exact B.out
    have gp : g ≠ L.p := fun e => gF.out (.inl e)
    have q2 := part_st D3.out (by omega) o.wn (nb := nb) (cellsAt_blk B3.out) gp fc.out
    rw [SX.out.1] at q2
    have q2 := Lib.hid q2
    have g2 : Hid (g < w2.heap.size) := blk_lt B.out
    clear q cv c1 c3 gp B
    have c1 : w3.cell? ⟨X, 1, none⟩ = some (.int .i64 o.n) := G3.out.chg.cell C1.out XR.out
    go_wp2_with fail
    refine q2.out.mono ?_
    rintro e w4 ⟨rfl, D4, X4⟩
    have D4 := Lib.hid D4
    have X4 := Lib.hid X4
    have ft4 : Hid (∀ i, RFt R' i → ¬ Foot L i) := fun i hi h => (G3.out.foot i hi).elim (fun h' => DJ.out i h h') (fun h' => by have := LTD.out i h; have := X2.out.size; omega)
    have H4 := Lib.hid (H3.out.chg X4.out ft4.out)
    have B4 : Hid (∃ cs : Array Value, w4.heap[g]? = some (.cells cs 5 (0, 0)) ∧ cs.size = 512) := ⟨_, by rw [X4.out.block g (blk_lt B3.out) gF.out]; exact B3.out, by rw [List.size_toArray, blkCells_length]; exact fc.out.1⟩
    have X24 : Hid (Chg (fun i => Foot L i ∨ RFt R i) w w4) := ((X2.out.mono (T := fun i => Foot L i ∨ RFt R i) (fun _ _ h => h.elim)).trans G3.out.chg (fun i hi h => .inr h)).trans X4.out (fun i hi h => .inl h)
    have gB : Hid (w.heap.size ≤ g) := by show _ ≤ _; have := gX.out; have := HX.out; omega
    have gRR : Hid (∀ i, RFt R' i → i ≠ g) := fun i hi e => by
      subst e
      rcases G3.out.foot i hi with h | h
      · exact gR.out h
      · have := g2.out; omega
    have RP := Lib.hid G3.out.p
    have RF : Hid (∀ i, RFt R' i → RFt R i ∨ w.heap.size ≤ i) := fun i hi => (G3.out.foot i hi).elim .inl (fun h => .inr (Nat.le_trans X2.out.size h))
    have SX2 := Lib.hid SX.out.2
    generalize (writeR r o.n sv).2 = e0 at *
    clear q2 c1 C1 B3 SX ft4
    go_wp2
    go_loopg [10] nb (fun kx s10 wr => ∃ t : Nat, s10 = .int .i64 t ∧ t ≤ nb ∧ nb - t ≤ kx ∧ Aside (∃ cs : Array Value, wr.heap[g]? = some (.cells cs 5 (0, 0)) ∧ cs.size = 512) ∧ Aside (Chg (fun i => i = g) w4 wr))
    case atStart => exact ⟨0, rfl, Nat.zero_le _, by omega, B4.out, Chg.refl _ _⟩
    case round =>
      clear B4
      obtain ⟨t, rfl, ht, hgk, B, XL⟩ := hrel
      have XL : Hid (Chg (fun i => i = g) w4 wr) := XL
      by_cases hlt : t < nb
      · have z1 : (t : Int) < (nb : Int) := by omega
        have z0 : (0 : Int) ≤ (t : Int) := by omega
        obtain ⟨cs, hb, hs⟩ := B.out
        obtain ⟨v0, hc⟩ : ∃ v, cs[t]? = some v := ⟨_, Array.getElem?_eq_getElem (by omega)⟩
        have k0 := (cell_of_blk hb hc).1
        have f0 := (cell_of_blk hb hc).2
        have HB := Lib.hid hb
        have HS := Lib.hid hs
        clear hb hs hc B
        go_wp2
        go_roundg (nb - (t + 1))
        case measure => omega
        case rel => exact ⟨t + 1, by go_num, by omega, Nat.le_refl _, ⟨_, cells_set5 HB.out _, by rw [Array.size_setIfInBounds]; exact HS.out⟩, XL.out.trans (chg_setCell wr ⟨g, t, none⟩ _) (fun i hi e => e)⟩
      · obtain rfl : t = nb := by omega
        have z1 : ¬ (t : Int) < (t : Int) := by omega
        go_wp2
        go_ret
        exact ⟨rfl, ⟨_, _, R', D4.out.chg XL.out (fun i hi e => gF.out (e ▸ hi)), H4.out.chg XL.out gRR.out, SX2.out, RP.out, RF.out⟩, X24.out.trans XL.out (fun i hi e => by have := gB.out; omega)⟩
  · have k1' : (kd == 1) = false := by simpa using k1
    by_cases k2 : kd = 2
    · subst k2
      have q := Lib.hid (flush_st D1.out (by omega))
      go_wp2_with fail
      refine q.out.mono ?_
      rintro e w2 ⟨rfl, DD, XD⟩
      have D2 : Hid (DvIs w2 L ((flushS s).1) (m + 1)) := DD.mono (by omega)
      have XD := Lib.hid XD
      have H2 := Lib.hid (H1.out.chg XD.out (fun i hi h => DJ.out i h hi))
      clear q
      have q := Lib.hid (flushR_any H2.out FT.out)
      go_wp2_with fail
      refine q.out.mono ?_
      rintro e w3 ⟨rfl, R', H3, G3⟩
      have H3 := Lib.hid H3
      have G3 := Lib.hid G3
      clear q
      go_wp2
      go_ret
      have SX := (SM.out.flush OK.out).2
      refine ⟨by show Ending.returned (Value.bool ((flushS s).2 == (flushR r).2)) = _; rw [(SM.out.flush OK.out).1]; simp, ⟨_, _, R', D2.out.chg G3.out.chg DJ.out, H3.out, SX.mono (by omega), G3.out.p, fun i hi => (G3.out.foot i hi).elim .inl (fun h => .inr (Nat.le_trans (Nat.le_trans X1.out.size XD.out.size) h))⟩, ?_⟩
      exact ((X1.out.mono (T := fun i => Foot L i ∨ RFt R i) (fun _ _ h => h.elim)).trans XD.out (fun i hi h => .inl h)).trans G3.out.chg (fun i hi h => .inr h)
    have k2' : (kd == 2) = false := by simpa using k2
    by_cases k3 : kd = 3
    · subst k3
      have q := Lib.hid (crash_st D1.out (by omega) o.mask o.torn o.bytes o.wm)
      go_wp2_with fail
      refine q.out.mono ?_
      rintro e w2 ⟨rfl, DD, XD⟩
      have D2 : Hid (DvIs w2 L (crashS s o.mask o.torn o.bytes) (m + 1)) := DD.mono (by omega)
      have XD := Lib.hid XD
      have H2 := Lib.hid (H1.out.chg XD.out (fun i hi h => DJ.out i h hi))
      have d4 := XD.out.cell c4 XF.out
      have d5 := XD.out.cell c5 XF.out
      have d6 := XD.out.cell c6 XF.out
      clear q
      have q := Lib.hid (crashRR_any H2.out FT.out o.mask o.torn o.bytes o.wm)
      go_wp2_with fail
      refine q.out.mono ?_
      rintro e w3 ⟨rfl, R', H3, G3⟩
      have H3 := Lib.hid H3
      have G3 := Lib.hid G3
      clear q
      go_wp2
      go_ret
      have SX := SM.out.crashes OK.out o.mask o.torn o.bytes o.wm
      refine ⟨rfl, ⟨_, _, R', D2.out.chg G3.out.chg DJ.out, H3.out, SX.mono (by omega), G3.out.p, fun i hi => (G3.out.foot i hi).elim .inl (fun h => .inr (Nat.le_trans (Nat.le_trans X1.out.size XD.out.size) h))⟩, ?_⟩
      exact ((X1.out.mono (T := fun i => Foot L i ∨ RFt R i) (fun _ _ h => h.elim)).trans XD.out (fun i hi h => .inl h)).trans G3.out.chg (fun i hi h => .inr h)
    have k3' : (kd == 3) = false := by simpa using k3
    by_cases k4 : kd = 4
    · subst k4
      have q := Lib.hid (start_st D1.out)
      go_wp2_with fail
      refine q.out.mono ?_
      rintro e w2 ⟨rfl, DD, XD⟩
      have D2 : Hid (DvIs w2 L (startS s) (m + 1)) := DD.mono (by omega)
      have XD := Lib.hid XD
      have H2 := Lib.hid (H1.out.chg XD.out (fun i hi h => DJ.out i h hi))
      clear q
      have q := Lib.hid ((startR_any H2.out).mono (R' := fun e w3 => e = .returned (.tuple #[]) ∧ ∃ R', RfIs w3 R' { r with down := false } ∧ Goes w2 w3 R R') fun e w3 ⟨he, H3, X3⟩ => ⟨he, R, H3, Goes.stay X3⟩)
      go_wp2_with fail
      refine q.out.mono ?_
      rintro e w3 ⟨rfl, R', H3, G3⟩
      have H3 := Lib.hid H3
      have G3 := Lib.hid G3
      clear q
      go_wp2
      go_ret
      have SX := SM.out.start
      refine ⟨rfl, ⟨_, _, R', D2.out.chg G3.out.chg DJ.out, H3.out, SX.mono (by omega), G3.out.p, fun i hi => (G3.out.foot i hi).elim .inl (fun h => .inr (Nat.le_trans (Nat.le_trans X1.out.size XD.out.size) h))⟩, ?_⟩
      exact ((X1.out.mono (T := fun i => Foot L i ∨ RFt R i) (fun _ _ h => h.elim)).trans XD.out (fun i hi h => .inl h)).trans G3.out.chg (fun i hi h => .inr h)
    have k4' : (kd == 4) = false := by simpa using k4
    by_cases k5 : kd = 5
    · subst k5
      have q := Lib.hid (arm_st D1.out o.c o.mask o.torn o.bytes ((wfK_iff _).1 o.wc).2 o.wm)
      go_wp2_with fail
      refine q.out.mono ?_
      rintro e w2 ⟨rfl, DD, XD⟩
      have D2 : Hid (DvIs w2 L (armS s o.c o.mask o.torn o.bytes) (m + 1)) := DD.mono (by omega)
      have XD := Lib.hid XD
      have H2 := Lib.hid (H1.out.chg XD.out (fun i hi h => DJ.out i h hi))
      have d2 := XD.out.cell c2 XF.out
      have d4 := XD.out.cell c4 XF.out
      have d5 := XD.out.cell c5 XF.out
      have d6 := XD.out.cell c6 XF.out
      clear q
      have q := Lib.hid ((armR_any H2.out o.c o.mask o.torn o.bytes).mono (R' := fun e w3 => e = .returned (.tuple #[]) ∧ ∃ R', RfIs w3 R' { r with armed := max o.c 0, mask := o.mask, torn := o.torn, bytes := o.bytes } ∧ Goes w2 w3 R R') fun e w3 ⟨he, H3, X3⟩ => ⟨he, R, H3, Goes.stay X3⟩)
      go_wp2_with fail
      refine q.out.mono ?_
      rintro e w3 ⟨rfl, R', H3, G3⟩
      have H3 := Lib.hid H3
      have G3 := Lib.hid G3
      clear q
      go_wp2
      go_ret
      have SX := SM.out.arm o.c o.mask o.torn o.bytes
      refine ⟨rfl, ⟨_, _, R', D2.out.chg G3.out.chg DJ.out, H3.out, SX.mono (by omega), G3.out.p, fun i hi => (G3.out.foot i hi).elim .inl (fun h => .inr (Nat.le_trans (Nat.le_trans X1.out.size XD.out.size) h))⟩, ?_⟩
      exact ((X1.out.mono (T := fun i => Foot L i ∨ RFt R i) (fun _ _ h => h.elim)).trans XD.out (fun i hi h => .inl h)).trans G3.out.chg (fun i hi h => .inr h)
    have k5' : (kd == 5) = false := by simpa using k5
    have q := Lib.hid (reads_any D1.out H1.out SM.out o.n)
    go_wp2_with fail
    refine q.out.mono ?_
    rintro e w2 ⟨rfl, X2⟩
    have X2 := Lib.hid X2
    clear q
    go_wp2
    go_ret
    have X := X1.out.trans X2.out (fun _ _ h => h)
    exact ⟨rfl, ⟨_, _, R, (D0.out.ext X).mono (by omega), H0.out.ext X, SM.out.mono (by omega), rfl, fun i hi => .inl hi⟩, X.mono (fun _ _ h => h.elim)⟩
end
end Go.Proofs.Ytedcpmkfanlicaa
