/- Write, Flush and Read of a device, as functions of states. -/
import Derived.Test.YtedcpmkfanlicaaDvSt
set_option linter.unusedVariables false
set_option linter.unusedSimpArgs false
namespace Go.Proofs.Ytedcpmkfanlicaa
open Go Go.RowKit Go.Sort Go.Lib Go.Maps
section
variable {w : World} {L : Loc} {s : St} {m nf nl : Nat}
theorem countS_fall (hd : s.d.down = false) (ha : s.d.armed = 1) : countS s = (⟨{ s.d with calls := s.d.calls + 1, down := true, armed := 0 }, settleG (resC s.d.mask s.d.torn (toBytes s.d.bytes)) 0 s.G s.lo, []⟩, false) := by
  unfold countS
  rw [hd, if_neg (by simp), if_neg (by omega), if_pos ha]
theorem countS_true (hd : s.d.down = true) : countS s = (s, true) := by unfold countS; rw [if_pos hd]
/-- a call that does not crash it -/
theorem counts_go (D : DevAt w L.p s.d L.mf L.ml nf nl s.G s.lo) (hd : s.d.down = false) (ha : s.d.armed ≠ 1) (hx : s.d.armed ≤ 9223372036854775807) (hc : 0 ≤ s.d.calls ∧ s.d.calls ≤ 1000000) :
    (countS s).2 = true ∧ (countS s).1.d.down = false ∧ (countS s).1.d.n = s.d.n ∧ (countS s).1.d.clock = s.d.clock ∧ (countS s).1.G = s.G ∧ (countS s).1.lo = s.lo ∧ Calls Try.prog 32 #[.pointer (some ⟨L.p, 0, none⟩)] w fun e w' => e = .returned (.bool true) ∧ DevAt w' L.p (countS s).1.d L.mf L.ml nf nl s.G s.lo ∧ Chg (fun i => i = L.p) w w' := by
  unfold countS
  rw [hd, if_neg (by simp)]
  by_cases h0 : s.d.armed ≤ 0
  · rw [if_pos h0]
    exact ⟨rfl, hd, rfl, rfl, rfl, rfl, counts_plain D hd h0 hc⟩
  · rw [if_neg h0, if_neg ha]
    exact ⟨rfl, hd, rfl, rfl, rfl, rfl, counts_armed D hd (by omega) hx hc⟩
theorem write_st (H : DvIs w L s m) (hmm : m < 1000000) {k : Int} (hk : wfK k) {gb ob cb : Nat} {b : Blk} (hb : CellsAt w gb ob (blkCells b)) (hbp : gb ≠ L.p) (fb : Full b) :
    Calls Try.prog 12 #[.pointer (some ⟨L.p, 0, none⟩), .int .i64 k, .slice (some ⟨gb, ob, none⟩) 512 cb] w fun e w' => e = .returned (.int .i64 (writeS s k b).2) ∧ DvIs w' L (writeS s k b).1 (m + 1) ∧ Chg (Foot L) w w' := by
  have hcs := counts_st H hmm
  obtain ⟨nf, nl, D, a, b'⟩ := H.dev
  have hc := H.clock
  have hl := H.calls
  have ha := H.armed
  cases hd : s.d.down with
  | true =>
    have e : writeS s k b = (s, 11) := by
      unfold writeS mayS
      rw [countS_true hd]
      simp [hd]
    rw [e]
    have cd := (counts_down D hd).mono (R' := fun e w' => e = .returned (.bool true) ∧ DevAt w' L.p s.d L.mf L.ml nf nl s.G s.lo ∧ Chg (fun i => i = L.p) w w') fun e w' ⟨he, hw⟩ => ⟨he, by subst hw; exact D, by subst hw; exact (Ext.refl _).chg _⟩
    exact (write_no (e0 := 11) cd (by rw [hd]; rfl) (by decide)).mono fun e w' ⟨he, D', X⟩ => ⟨he, ⟨⟨nf, nl, D', by show nf + s.lo.length ≤ _; omega, by omega⟩, ⟨hc.1, by show s.d.clock ≤ _; omega⟩, ⟨hl.1, by show s.d.calls ≤ _; omega⟩, H.mask, H.armed⟩, X.mono fun _ _ h => .inl h⟩
  | false =>
    by_cases h1 : s.d.armed = 1
    · have e2 : (countS s).2 = false := by rw [countS_fall hd h1]
      have e : writeS s k b = ((countS s).1, 11) := by unfold writeS; rw [if_pos e2]
      rw [e]
      rw [e2] at hcs
      exact write_false hcs
    · obtain ⟨c2, cd, cn, cc, cG, cl, CT⟩ := counts_go D hd h1 ha.2 (by omega)
      have hcount : DvIs w L s m := H
      have ca : 0 ≤ (countS s).1.d.calls ∧ (countS s).1.d.calls ≤ (m + 1 : Nat) ∧ u64 (countS s).1.d.mask ∧ 0 ≤ (countS s).1.d.armed ∧ (countS s).1.d.armed ≤ 9223372036854775807 := by
        unfold countS
        rw [hd, if_neg (by simp)]
        have hu := H.mask
        split
        · exact ⟨by show 0 ≤ s.d.calls + 1; omega, by show s.d.calls + 1 ≤ _; omega, hu, ha⟩
        · exact ⟨by show 0 ≤ s.d.calls + 1; omega, by show s.d.calls + 1 ≤ _; omega, hu, by show 0 ≤ s.d.armed - 1; omega, by show s.d.armed - 1 ≤ _; omega⟩
      by_cases hm : mayS (countS s).1 k = 0
      · have e : writeS s k b = (putS (countS s).1 k b, 0) := by unfold writeS; rw [if_neg (by rw [c2]; simp), if_pos hm]
        rw [e]
        unfold mayS at hm
        rw [cd, cn] at hm
        have hr : ¬ (k < 0 ∨ s.d.n ≤ k) := fun h => by rw [if_neg (by simp), if_pos h] at hm; exact absurd hm (by decide)
        refine (write_ok CT cd (by omega) (by omega) hk hb hbp fb (by omega) (by omega)).mono fun e w' ⟨he, D', X⟩ => ⟨he, ⟨⟨nf, nl + 1, ?_, ?_, by omega⟩, ?_, ⟨ca.1, ca.2.1⟩, ca.2.2.1, ca.2.2.2⟩, X.mono fun _ _ h => h.elim .inl fun h => .inr (.inr h)⟩
        · show DevAt w' L.p { (countS s).1.d with clock := clockP (countS s).1.lo k (countS s).1.d.clock } L.mf L.ml nf (nl + 1) (countS s).1.G (putL (countS s).1.lo k b (countS s).1.d.clock)
          rw [cl, cG]; exact D'
        · show nf + (putL (countS s).1.lo k b (countS s).1.d.clock).length ≤ _
          rw [cl]
          have := putL_length s.lo k b (countS s).1.d.clock
          omega
        · show 0 ≤ clockP (countS s).1.lo k (countS s).1.d.clock ∧ clockP (countS s).1.lo k (countS s).1.d.clock ≤ _
          have := clockP_le (countS s).1.lo k (countS s).1.d.clock
          omega
      · have e : writeS s k b = ((countS s).1, mayS (countS s).1 k) := by unfold writeS; rw [if_neg (by rw [c2]; simp), if_neg hm]
        rw [e]
        refine (write_no CT rfl hm).mono fun e w' ⟨he, D', X⟩ => ⟨he, ⟨⟨nf, nl, by rw [cG, cl]; exact D', by rw [cl]; omega, by omega⟩, ⟨by show 0 ≤ (countS s).1.d.clock; omega, by show (countS s).1.d.clock ≤ _; omega⟩, ⟨ca.1, ca.2.1⟩, ca.2.2.1, ca.2.2.2⟩, X.mono fun _ _ h => .inl h⟩
theorem flush_st (H : DvIs w L s m) (hmm : m < 1000000) :
    Calls Try.prog 19 #[.pointer (some ⟨L.p, 0, none⟩)] w fun e w' => e = .returned (.int .i64 (flushS s).2) ∧ DvIs w' L (flushS s).1 (m + 1) ∧ Chg (Foot L) w w' := by
  have hcs := counts_st H hmm
  obtain ⟨nf, nl, D, a, b'⟩ := H.dev
  have hc := H.clock
  have hl := H.calls
  have ha := H.armed
  cases hd : s.d.down with
  | true =>
    have e : flushS s = (s, 11) := by unfold flushS; rw [if_pos hd]
    rw [e]
    exact (flush_down D hd).mono fun e w' ⟨he, hw⟩ => ⟨he, by subst hw; exact H.mono (by omega), by subst hw; exact (Ext.refl _).chg _⟩
  | false =>
    by_cases h1 : s.d.armed = 1
    · have e2 : (countS s).2 = false := by rw [countS_fall hd h1]
      have e : flushS s = ((countS s).1, 11) := by unfold flushS; rw [if_neg (by rw [hd]; simp), if_pos e2]
      rw [e]
      rw [e2] at hcs
      exact flush_false D hd hcs
    · obtain ⟨c2, cd, cn, cc, cG, cl, CT⟩ := counts_go D hd h1 ha.2 (by omega)
      have ca : 0 ≤ (countS s).1.d.calls ∧ (countS s).1.d.calls ≤ (m + 1 : Nat) ∧ u64 (countS s).1.d.mask ∧ 0 ≤ (countS s).1.d.armed ∧ (countS s).1.d.armed ≤ 9223372036854775807 := by
        unfold countS
        rw [hd, if_neg (by simp)]
        have hu := H.mask
        split
        · exact ⟨by show 0 ≤ s.d.calls + 1; omega, by show s.d.calls + 1 ≤ _; omega, hu, ha⟩
        · exact ⟨by show 0 ≤ s.d.calls + 1; omega, by show s.d.calls + 1 ≤ _; omega, hu, by show 0 ≤ s.d.armed - 1; omega, by show s.d.armed - 1 ≤ _; omega⟩
      have e : flushS s = (settleS (countS s).1, 0) := by unfold flushS; rw [if_neg (by rw [hd]; simp), if_neg (by rw [c2]; simp)]
      rw [e]
      refine (flush_true D hd (by omega) (by omega) (by omega) CT).mono fun e w' ⟨he, D', X⟩ => ⟨he, ⟨⟨nf + s.lo.length, nl, ?_, by show nf + s.lo.length + 0 ≤ _; omega, by omega⟩, ?_, ⟨ca.1, ca.2.1⟩, ca.2.2.1, ca.2.2.2⟩, X⟩
      · show DevAt w' L.p (countS s).1.d L.mf L.ml _ nl (settleG resF 0 (countS s).1.G (countS s).1.lo) []
        rw [cG, cl]; exact D'
      · show 0 ≤ (countS s).1.d.clock ∧ (countS s).1.d.clock ≤ _
        omega
theorem read_st (H : DvIs w L s m) {k : Int} (hk : wfK k) (h : mayS s k = 0) :
    Calls Try.prog 21 #[.pointer (some ⟨L.p, 0, none⟩), .int .i64 k] w fun x w' => x = .returned (.tuple #[.slice (some ⟨w.heap.size, 0, none⟩) 512 512, .int .i64 0]) ∧ w'.heap[w.heap.size]? = some (.cells (blkCells (newest s.G s.lo k)).toArray 65 (0, 0)) ∧ Chg (fun _ => False) w w' := by
  obtain ⟨nf, nl, D, a, b'⟩ := H.dev
  unfold mayS at h
  cases hd : s.d.down with
  | true => rw [hd, if_pos rfl] at h; exact absurd h (by decide)
  | false =>
    rw [hd, if_neg (by simp)] at h
    have hr : ¬ (k < 0 ∨ s.d.n ≤ k) := fun e => by rw [if_pos e] at h; exact absurd h (by decide)
    exact read_ok D k hk hd (by omega) (by omega)
theorem read_st_no (H : DvIs w L s m) (k : Int) (h : mayS s k ≠ 0) :
    Calls Try.prog 21 #[.pointer (some ⟨L.p, 0, none⟩), .int .i64 k] w fun x w' => x = .returned (.tuple #[.slice none 0 0, .int .i64 (mayS s k)]) ∧ w' = w := by
  obtain ⟨nf, nl, D, a, b'⟩ := H.dev
  exact read_no D k _ rfl h
end
def callS (s : St) : St := { s with d := { s.d with calls := s.d.calls + 1 } }
theorem countS_up {s : St} (hd : s.d.down = false) (ha : s.d.armed ≤ 0) : countS s = (callS s, true) := by
  unfold countS
  rw [hd, if_neg (by simp), if_pos ha]
  rfl
theorem writeS_up {s : St} {k : Int} {b : Blk} (hd : s.d.down = false) (ha : s.d.armed ≤ 0) (h0 : 0 ≤ k) (hn : k < s.d.n) : writeS s k b = (putS (callS s) k b, 0) := by
  have hm : mayS (callS s) k = 0 := by
    unfold mayS callS
    rw [hd, if_neg (by simp), if_neg (by show ¬ (k < 0 ∨ s.d.n ≤ k); omega)]
  unfold writeS
  rw [countS_up hd ha, if_neg (by simp), if_pos hm]
theorem writeS_out {s : St} {k : Int} {b : Blk} (hd : s.d.down = false) (ha : s.d.armed ≤ 0) (h0 : k < 0 ∨ s.d.n ≤ k) : writeS s k b = (callS s, 1) := by
  have hm : mayS (callS s) k = 1 := by
    unfold mayS callS
    rw [hd, if_neg (by simp), if_pos h0]
  unfold writeS
  rw [countS_up hd ha, if_neg (by simp), if_neg (by rw [hm]; decide), hm]
theorem writeS_down {s : St} {k : Int} {b : Blk} (hd : s.d.down = true) : writeS s k b = (s, 11) := by
  unfold writeS mayS
  rw [countS_true hd]
  simp [hd]
theorem flushS_up {s : St} (hd : s.d.down = false) (ha : s.d.armed ≤ 0) : flushS s = (settleS (callS s), 0) := by
  unfold flushS
  rw [countS_up hd ha, if_neg (by rw [hd]; simp), if_neg (by simp)]
theorem flushS_down {s : St} (hd : s.d.down = true) : flushS s = (s, 11) := by unfold flushS; rw [if_pos hd]
theorem mayS_in {s : St} {k : Int} (hd : s.d.down = false) (h0 : 0 ≤ k) (hn : k < s.d.n) : mayS s k = 0 := by unfold mayS; rw [hd, if_neg (by simp), if_neg (by omega)]
/-- a block's new slice, which a device does not know -/
theorem content_st (n : Int) (w : World) : Calls Try.prog 13 #[.int .i64 n] w fun e w' => e = .returned (.slice (some ⟨w.heap.size, 0, none⟩) 512 512) ∧ CellsAt w' w.heap.size 0 (blkCells (content n)) ∧ Chg (fun _ => False) w w' :=
  (content_any n w).mono fun e w' ⟨he, h⟩ => ⟨he, h.cells, h.2⟩
end Go.Proofs.Ytedcpmkfanlicaa
