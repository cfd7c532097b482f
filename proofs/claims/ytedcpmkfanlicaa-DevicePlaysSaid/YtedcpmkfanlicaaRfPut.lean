/- Contracts that does needs: Write with any slice, the reference's Crash in any state. -/
import Derived.Test.YtedcpmkfanlicaaRfReads
set_option linter.unusedVariables false
set_option linter.unusedSimpArgs false
namespace Go.Proofs.Ytedcpmkfanlicaa
open Go Go.RowKit Go.Sort Go.Lib Go.Maps Go.Deep
section
variable {w : World} {L : Loc} {s : St} {m : Nat} {R : Rl} {r : Rf}
theorem may_st (H : DvIs w L s m) (k : Int) : Calls Try.prog 33 #[.pointer (some ⟨L.p, 0, none⟩), .int .i64 k] w fun e w' => e = .returned (.int .i64 (mayS s k)) ∧ w' = w := by obtain ⟨nf, nl, D, a, b⟩ := H.dev; exact may_any D k
set_option maxHeartbeats 1000000 in
theorem short_st (H : DvIs w L s m) (hmm : m < 1000000) (k : Int) (gb ob nb cb : Nat) (hn : nb ≠ 512) :
    Calls Try.prog 12 #[.pointer (some ⟨L.p, 0, none⟩), .int .i64 k, .slice (some ⟨gb, ob, none⟩) nb cb] w fun e w' => e = .returned (.int .i64 (shortS s k).2) ∧ DvIs w' L (shortS s k).1 (m + 1) ∧ Chg (Foot L) w w' := by
  have q := counts_st H hmm
  cases hc : (countS s).2 with
  | false =>
    have E : Hid (shortS s k = ((countS s).1, 11)) := by show _ = _; unfold shortS; rw [if_pos hc]
    rw [hc] at q
    have q := Lib.hid q
    clear hc H
    go_enter Try.func12, Try.ntmps12
    go_wp2_with fail
    refine q.out.mono ?_
    rintro e w1 ⟨rfl, D, X⟩
    have D := Lib.hid D
    have X := Lib.hid X
    go_wp2
    go_ret
    rw [E.out]
    exact ⟨rfl, D.out, X.out⟩
  | true =>
    have E : Hid (shortS s k = if mayS (countS s).1 k = 0 then ((countS s).1, 1) else ((countS s).1, mayS (countS s).1 k)) := by show _ = _; unfold shortS; rw [if_neg (by rw [hc]; simp)]
    rw [hc] at q
    have q := Lib.hid q
    clear hc H
    generalize (countS s).1 = s1 at q E
    have hn1 : ¬ (nb : Int) = 512 := by omega
    have hn2 : ((nb : Int) != 512) = true := by simpa using hn1
    go_enter Try.func12, Try.ntmps12
    go_wp2_with fail
    refine q.out.mono ?_
    rintro e w1 ⟨rfl, D, X⟩
    have D := Lib.hid D
    have X := Lib.hid X
    have q2 := Lib.hid (may_st D.out k)
    go_wp2_with fail
    refine q2.out.mono ?_
    rintro e w2 ⟨rfl, hw⟩
    have hw := hw.symm
    subst hw
    clear q q2
    by_cases h0 : mayS s1 k = 0
    · have E1 : Hid (shortS s k = (s1, 1)) := by show _ = _; rw [E.out, if_pos h0]
      rw [h0]
      go_wp2
      go_ret
      rw [E1.out]
      exact ⟨rfl, D.out, X.out⟩
    · have E1 : Hid (shortS s k = (s1, mayS s1 k)) := by show _ = _; rw [E.out, if_neg h0]
      have h0' : (mayS s1 k == 0) = false := by simpa using h0
      have h0'' : (mayS s1 k != 0) = true := by simpa using h0
      generalize mayS s1 k = e0 at *
      go_wp2
      go_ret
      rw [E1.out]
      exact ⟨rfl, D.out, X.out⟩
/-- a write of the first bytes of a block -/
def partS (s : St) (k : Int) (b : Blk) (nb : Nat) : St × Int := if nb = 512 then writeS s k b else shortS s k
theorem part_st (H : DvIs w L s m) (hmm : m < 1000000) {k : Int} (hk : wfK k) {g nb : Nat} {b : Blk} (hb : CellsAt w g 0 (blkCells b)) (hg : g ≠ L.p) (fb : Full b) :
    Calls Try.prog 12 #[.pointer (some ⟨L.p, 0, none⟩), .int .i64 k, .slice (some ⟨g, 0, none⟩) nb 512] w fun e w' => e = .returned (.int .i64 (partS s k b nb).2) ∧ DvIs w' L (partS s k b nb).1 (m + 1) ∧ Chg (Foot L) w w' := by
  unfold partS
  by_cases hn : nb = 512
  · rw [if_pos hn, hn]
    exact write_st H hmm hk hb hg fb
  · rw [if_neg hn]
    exact short_st H hmm k g 0 nb 512 hn
theorem Sim.part (h : Sim s r m) (o : Okay s m) (k : Int) {b : Blk} (fb : Full b) (nb : Nat) (hn : nb ≤ 512) : (partS s k b nb).2 = (writeR r k (strOfNums (b.take nb))).2 ∧ Sim (partS s k b nb).1 (writeR r k (strOfNums (b.take nb))).1 (m + 1) := by
  unfold partS
  by_cases h5 : nb = 512
  · rw [if_pos h5, h5]
    have e : strOfNums (b.take 512) = strB b := by rw [List.take_of_length_le (by rw [fb.1]; exact Nat.le_refl _)]; rfl
    rw [e]
    exact h.write o k fb
  · rw [if_neg h5]
    have e : (strOfNums (b.take nb)).size = nb := by
      have hl : (b.take nb).length = nb := by rw [List.length_take, fb.1]; omega
      exact (strB_size (b.take nb)).trans hl
    exact h.short o k (by rw [e]; exact h5)
theorem Sim.bounds (h : Sim s r m) (o : Okay s m) : (countR r).1.L.length ≤ m ∧ (countR r).1.lo.length ≤ m := by
  have hl : r.lo.length ≤ m := by rw [h.lo, List.length_map]; exact o.lo
  rcases h.count o with ⟨hd, e1, e2⟩ | ⟨hd, c1, c2, hs⟩ | ⟨hd, c1, c2, hs, hd', hl', hG⟩
  · rw [e2]; exact ⟨h.len, hl⟩
  · refine ⟨hs.len, ?_⟩
    rw [hs.lo, List.length_map]
    by_cases ha : s.d.armed = 1
    · rw [countS_fall hd ha]; exact Nat.zero_le _
    · have : (countS s).2 = true := by
        unfold countS
        rw [hd, if_neg (by simp)]
        split
        · rfl
        · rfl
      rw [this] at c1; cases c1
  · refine ⟨hs.len, ?_⟩
    rw [hs.lo, hl', List.length_map]
    exact o.lo
def crashRR (r : Rf) (mask torn bytes : Int) : Rf := if r.down then r else { r with down := true, armed := 0, lo := [], L := crashL (resS mask torn (toBytes bytes)) 0 r.L r.lo }
theorem crashRR_any (H : RfIs w R r) (F : Fit r) (mask torn bytes : Int) (hm : u64 mask) : Calls Try.prog 29 #[.pointer (some ⟨R.p, 0, none⟩), .int .u64 mask, .int .i64 torn, .int .i64 bytes] w fun e w' => e = .returned (.tuple #[]) ∧ ∃ R', RfIs w' R' (crashRR r mask torn bytes) ∧ Goes w w' R R' := by
  unfold crashRR
  cases hd : r.down with
  | true =>
    rw [if_pos rfl]
    exact (crashR_down H hd mask torn bytes).mono fun e w' ⟨he, hw⟩ => ⟨he, R, by rw [hw]; exact H, by rw [hw]; exact Goes.refl _ _⟩
  | false =>
    rw [if_neg (by simp)]
    refine (crashR_up H hd mask torn bytes hm F.has F.sized).mono fun e w' ⟨he, H', X⟩ => ⟨he, _, H', rfl, X, ?_⟩
    rintro i (h | h | h)
    · exact .inl (.inl h)
    · exact .inl (.inr (.inl h))
    · cases h
theorem Sim.crashes (h : Sim s r m) (o : Okay s m) (mask torn bytes : Int) (hm : u64 mask) : Sim (crashS s mask torn bytes) (crashRR r mask torn bytes) m := by
  unfold crashRR
  cases hd : s.d.down with
  | true => rw [if_pos (h.down.trans hd), crashS_down hd]; exact h
  | false => rw [if_neg (by rw [h.down, hd]; simp)]; exact h.crash o hd mask torn bytes hm
theorem conv_part {b : Blk} (fb : Full b) {nb : Nat} (hn : nb ≤ 512) (w : World) (g : Nat) (h : CellsAt w g 0 (blkCells b)) : (convert 31 9 (.slice (some ⟨g, 0, none⟩) nb 512)).run Try.prog w = .ok (.string (strOfNums (b.take nb))) w := by
  have hl : (b.take nb).length = nb := by rw [List.length_take, fb.1]; omega
  refine run_convert_bytes_arg (P := Try.prog) w 31 5 Try.underlying31 Try.underlying5 g 0 nb 512 (b.take nb) hl (fun i hi => ?_) 9 Try.underlying9
  have hi' : i < b.length := by rw [fb.1]; omega
  have e : (blkCells b)[i]? = some (bv b[i]) := by simp [blkCells, List.getElem?_map, hi']
  have := h i _ e
  rw [this]
  simp [bv, List.getD, List.getElem?_take, hi, hi']
end
end Go.Proofs.Ytedcpmkfanlicaa
