/- What is flushed stays, as long as it is not written: a plain law on states. -/
import Derived.Test.YtedcpmkfanlicaaDvLaw
set_option linter.unusedVariables false
set_option linter.unusedSimpArgs false
namespace Go.Proofs.Ytedcpmkfanlicaa
open Go Go.RowKit Go.Sort Go.Lib Go.Maps
structure LastP (s : St) (u : Int) (B : Blk) : Prop where
  n8 : s.d.n = 8
  lo : look s.lo u = none
  fl : s.G u = some B
theorem LastP.newest {s : St} {u : Int} {B : Blk} (h : LastP s u B) : newest s.G s.lo u = B := by
  unfold Go.Proofs.Ytedcpmkfanlicaa.newest
  rw [h.lo, h.fl]
  rfl
theorem LastP.count {s : St} {u : Int} {B : Blk} (h : LastP s u B) : LastP (countS s).1 u B := by
  unfold countS
  split
  · exact h
  · split
    · exact ⟨h.n8, h.lo, h.fl⟩
    · split
      · exact ⟨h.n8, rfl, (settleG_out _ _ _ _ _ h.lo).trans h.fl⟩
      · exact ⟨h.n8, h.lo, h.fl⟩
theorem LastP.write {s : St} {u : Int} {B : Blk} (h : LastP s u B) {k : Int} (hk : k ≠ u) (b : Blk) : LastP (writeS s k b).1 u B := by
  have hc := h.count
  unfold writeS
  split
  · exact hc
  · split
    · refine ⟨hc.n8, ?_, hc.fl⟩
      show look (putL (countS s).1.lo k b (countS s).1.d.clock) u = none
      rw [look_putL, if_neg (fun e => hk e.symm)]
      exact hc.lo
    · exact hc
theorem LastP.flush {s : St} {u : Int} {B : Blk} (h : LastP s u B) : LastP (flushS s).1 u B := by
  have hc := h.count
  unfold flushS
  split
  · exact h
  · split
    · exact hc
    · exact ⟨hc.n8, rfl, (settleG_out _ _ _ _ _ hc.lo).trans hc.fl⟩
theorem LastP.crash {s : St} {u : Int} {B : Blk} (h : LastP s u B) (mask torn bytes : Int) : LastP (crashS s mask torn bytes) u B := by
  unfold crashS
  split
  · exact h
  · exact ⟨h.n8, rfl, (settleG_out _ _ _ _ _ h.lo).trans h.fl⟩
theorem LastP.start {s : St} {u : Int} {B : Blk} (h : LastP s u B) : LastP (startS s) u B := ⟨h.n8, h.lo, h.fl⟩
theorem LastP.arm {s : St} {u : Int} {B : Blk} (h : LastP s u B) (n mask torn bytes : Int) : LastP (armS s n mask torn bytes) u B := ⟨h.n8, h.lo, h.fl⟩
theorem LastP.may {s : St} {u : Int} {B : Blk} (h : LastP s u B) (hd : s.d.down = false) (h0 : 0 ≤ u) (h8 : u < 8) : mayS s u = 0 := mayS_in hd h0 (by rw [h.n8]; exact h8)
theorem lastP_first (u : Int) (B : Blk) : LastP (settleS (callS (putS (callS (newS 8)) u B))) u B := by
  refine ⟨by show (newS 8).d.n = 8; decide, rfl, ?_⟩
  simp [settleS, callS, putS, newS, look, putL, settleG, resF, putG]
end Go.Proofs.Ytedcpmkfanlicaa
