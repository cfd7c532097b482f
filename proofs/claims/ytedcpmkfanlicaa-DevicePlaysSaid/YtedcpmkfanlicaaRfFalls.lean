/- The reference's falls and Flush. -/
import Derived.Test.YtedcpmkfanlicaaRfCrash
set_option linter.unusedVariables false
set_option linter.unusedSimpArgs false
namespace Go.Proofs.Ytedcpmkfanlicaa
open Go Go.RowKit Go.Sort Go.Lib Go.Maps Go.Deep
def countR (r : Rf) : Rf × Bool :=
  if r.down then (r, true)
  else if r.armed ≤ 0 then ({ r with calls := r.calls + 1 }, false)
  else if r.armed = 1 then ({ r with calls := r.calls + 1, down := true, armed := 0, lo := [], L := crashL (resS r.mask r.torn (toBytes r.bytes)) 0 r.L r.lo }, true)
  else ({ r with calls := r.calls + 1, armed := r.armed - 1 }, false)
/-- what a device of the reference must be for its calls to go well -/
structure Fit (r : Rf) : Prop where
  calls : 0 ≤ r.calls ∧ r.calls ≤ 1000000
  armed : 0 ≤ r.armed ∧ r.armed ≤ 9223372036854775807
  mask : u64 r.mask
  has : ∀ k ∈ r.lo, ∃ j, atR r.L k = some j
  sized : Sized r.L
/-- a device goes on at R', in the memory that it had, or new memory -/
structure Goes (w w' : World) (R R' : Rl) : Prop where
  p : R'.p = R.p
  chg : Chg (RFt R) w w'
  foot : ∀ i, RFt R' i → RFt R i ∨ w.heap.size ≤ i
theorem Goes.refl (w : World) (R : Rl) : Goes w w R R := ⟨rfl, Chg.refl _ _, fun i h => .inl h⟩
section
variable {w : World} {R : Rl} {r : Rf}
theorem Goes.stay {w' : World} (X : Chg (fun i => i = R.p) w w') : Goes w w' R R := ⟨rfl, X.mono (fun i hi h => .inl h), fun i h => .inl h⟩
theorem Goes.trans {w1 w2 : World} {R1 R2 : Rl} (H : RfIs w R r) (a : Goes w w1 R R1) (b : Goes w1 w2 R1 R2) : Goes w w2 R R2 :=
  ⟨b.p.trans a.p, a.chg.trans b.chg (fun i hi h => (a.foot i h).elim id (fun h' => absurd hi (by omega))), fun i h => (b.foot i h).elim (fun h => a.foot i h) (fun h => .inr (Nat.le_trans a.chg.size h))⟩
set_option maxHeartbeats 2000000 in
set_option maxRecDepth 100000 in
theorem fallsR_any (H : RfIs w R r) (F : Fit r) : Calls Try.prog 48 #[.pointer (some ⟨R.p, 0, none⟩)] w fun e w' => e = .returned (.bool (countR r).2) ∧ ∃ R', RfIs w' R' (countR r).1 ∧ Goes w w' R R' := by
  have mixed := Try.mixed
  have hc := F.calls
  have ha := F.armed
  have c3 : w.cell? ⟨R.p, 3, none⟩ = some (.bool r.down) := (H.cell (j := 3) rfl).1
  have c4 : w.cell? ⟨R.p, 4, none⟩ = some (.int .i64 r.calls) := (H.cell (j := 4) rfl).1
  have f4 : w.frozen? ⟨R.p, 4, none⟩ = false := (H.cell (j := 4) rfl).2
  have c5 : w.cell? ⟨R.p, 5, none⟩ = some (.int .i64 r.armed) := (H.cell (j := 5) rfl).1
  have f5 : w.frozen? ⟨R.p, 5, none⟩ = false := (H.cell (j := 5) rfl).2
  have HH := Lib.hid H
  have FF := Lib.hid F
  have e4 : IntKind.i64.wrap (r.calls + 1) = r.calls + 1 := wrap_in _ _ (by omega) (by omega) rfl
  clear H F
  cases hd : r.down with
  | true =>
    have E : Hid (countR r = (r, true)) := by show _ = _; unfold countR; rw [if_pos hd]
    rw [hd] at c3
    clear hd
    go_enter Try.func48, Try.ntmps48
    go_wp2
    go_ret
    rw [E.out]
    exact ⟨rfl, R, HH.out, Goes.refl _ _⟩
  | false =>
    rw [hd] at c3
    have B1 : Hid (RfIs (w.setCell ⟨R.p, 4, none⟩ (.int .i64 (r.calls + 1))) R { r with calls := r.calls + 1 }) :=
      HH.out.fields (chg_setCell w ⟨R.p, 4, none⟩ _) (heap_setCell_same _ R.p 4 _ 76 _ HH.out.blk) rfl rfl
    have X1 : Hid (Chg (fun i => i = R.p) w (w.setCell ⟨R.p, 4, none⟩ (.int .i64 (r.calls + 1)))) := chg_setCell w ⟨R.p, 4, none⟩ _
    by_cases h0 : r.armed ≤ 0
    · have E : Hid (countR r = ({ r with calls := r.calls + 1 }, false)) := by show _ = _; unfold countR; rw [hd, if_neg (by simp), if_pos h0]
      have h0' : ¬ r.armed > 0 := by omega
      clear hd
      go_enter Try.func48, Try.ntmps48
      go_wp2
      go_ret
      rw [E.out]
      exact ⟨rfl, R, B1.out, Goes.stay X1.out⟩
    · have h0' : r.armed > 0 := by omega
      have e5 : IntKind.i64.wrap (r.armed - 1) = r.armed - 1 := wrap_in _ _ (by omega) (by omega) rfl
      have B2 : Hid (RfIs ((w.setCell ⟨R.p, 4, none⟩ (.int .i64 (r.calls + 1))).setCell ⟨R.p, 5, none⟩ (.int .i64 (r.armed - 1))) R { r with calls := r.calls + 1, armed := r.armed - 1 }) :=
        B1.out.fields (chg_setCell _ ⟨R.p, 5, none⟩ _) (heap_setCell_same _ R.p 5 _ 76 _ B1.out.blk) rfl rfl
      have X2 : Hid (Chg (fun i => i = R.p) w ((w.setCell ⟨R.p, 4, none⟩ (.int .i64 (r.calls + 1))).setCell ⟨R.p, 5, none⟩ (.int .i64 (r.armed - 1)))) := X1.out.trans (chg_setCell _ ⟨R.p, 5, none⟩ _) (fun _ _ h => h)
      by_cases h1 : r.armed = 1
      · have E : Hid (countR r = ({ r with calls := r.calls + 1, down := true, armed := 0, lo := [], L := crashL (resS r.mask r.torn (toBytes r.bytes)) 0 r.L r.lo }, true)) := by show _ = _; unfold countR; rw [hd, if_neg (by simp), if_neg h0, if_pos h1]
        have hd' := Lib.hid hd
        clear hd
        go_enter Try.func48, Try.ntmps48
        go_upto_region 7 with fail
        obtain ⟨w2, hw2⟩ : ∃ W, W = (w.setCell ⟨R.p, 4, none⟩ (.int .i64 (r.calls + 1))).setCell ⟨R.p, 5, none⟩ (.int .i64 (r.armed - 1)) := ⟨_, rfl⟩
        rw [← hw2] at B2 X2
        have CR := crashR_up (B2.out.ext ((Ext.refl w2).drew.chg _)) hd'.out r.mask r.torn r.bytes FF.out.mask FF.out.has FF.out.sized
        have CR := Lib.hid CR
        have k6 : w2.cell? ⟨R.p, 6, none⟩ = some (.int .u64 r.mask) := (B2.out.cell (j := 6) rfl).1
        have k7 : w2.cell? ⟨R.p, 7, none⟩ = some (.int .i64 r.torn) := (B2.out.cell (j := 7) rfl).1
        have k8 : w2.cell? ⟨R.p, 8, none⟩ = some (.int .i64 r.bytes) := (B2.out.cell (j := 8) rfl).1
        have hw3 : (w.setCell ⟨R.p, 4, none⟩ (.int .i64 (r.calls + 1))).setCell ⟨R.p, 5, none⟩ (.int .i64 0) = w2 := by rw [hw2, h1]; rfl
        try rw [hw3]
        try rw [← hw2]
        clear hw2 hw3 c3 c4 c5 f4 f5 B1 X1
        go_region_held3 (fun W => W.cell? ⟨R.p, 6, none⟩ = some (.int .u64 r.mask) ∧ W.cell? ⟨R.p, 7, none⟩ = some (.int .i64 r.torn) ∧ W.cell? ⟨R.p, 8, none⟩ = some (.int .i64 r.bytes)) (go_keep) (first | (go_at_call 29; refine CR.out.mono ?_; rintro e w3 ⟨rfl, H3, X3⟩; have k6 : w3.cell? ⟨R.p, 6, none⟩ = some (.int .u64 r.mask) := (H3.cell (j := 6) rfl).1; have k7 : w3.cell? ⟨R.p, 7, none⟩ = some (.int .i64 r.torn) := (H3.cell (j := 7) rfl).1; have k8 : w3.cell? ⟨R.p, 8, none⟩ = some (.int .i64 r.bytes) := (H3.cell (j := 8) rfl).1; have H3 := Lib.hid H3; have X3 := Lib.hid X3))
        go_wp2
        go_ret
        rw [E.out]
        have XD : Chg (RFt R) w2 w3 := ((Ext.refl w2).drew.chg (RFt R)).trans X3.out (fun i hi h => h)
        refine ⟨rfl, ⟨R.p, R.vL, .slice none 0 0⟩, H3.out, rfl, ?_, ?_⟩
        · exact (X2.out.mono (fun i hi h => Or.inl h)).trans XD (fun i hi h => h)
        · rintro i (h | h | h)
          · exact .inl (.inl h)
          · exact .inl (.inr (.inl h))
          · cases h
      · have E : Hid (countR r = ({ r with calls := r.calls + 1, armed := r.armed - 1 }, false)) := by show _ = _; unfold countR; rw [hd, if_neg (by simp), if_neg h0, if_neg h1]
        have h2 : ¬ r.armed - 1 = 0 := by omega
        have h2' : (r.armed - 1 == 0) = false := by simpa using h2
        clear hd
        go_enter Try.func48, Try.ntmps48
        go_wp2
        go_ret
        rw [E.out]
        exact ⟨rfl, R, B2.out, Goes.stay X2.out⟩
end
end Go.Proofs.Ytedcpmkfanlicaa
