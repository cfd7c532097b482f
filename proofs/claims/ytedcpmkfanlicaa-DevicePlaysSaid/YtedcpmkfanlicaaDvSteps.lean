/- Write and Flush of a device that is up and not armed. -/
import Derived.Test.YtedcpmkfanlicaaDvClone
set_option linter.unusedVariables false
set_option linter.unusedSimpArgs false
namespace Go.Proofs.Ytedcpmkfanlicaa
open Go Go.RowKit Go.Sort Go.Lib Go.Maps
section
variable {w : World} {p mf ml nf nl : Nat} {d : Dv} {G : Int → Option Blk} {lo : List (Int × Nw)}
def calledD (d : Dv) : Dv := { d with calls := d.calls + 1 }
theorem write_step (H : DevAt w p d mf ml nf nl G lo) (hd : d.down = false) (ha : d.armed ≤ 0) (hc : 0 ≤ d.calls ∧ d.calls ≤ 1000000) (hl : 0 ≤ d.clock ∧ d.clock ≤ 1000000) {k : Int} {gb ob cb : Nat} {b : Blk} (h0 : 0 ≤ k) (hn : k < d.n) (hk : wfK k)
    (hb : CellsAt w gb ob (blkCells b)) (hbp : gb ≠ p) (fb : Full b) (hnl : nl ≤ 1000000) :
    Calls Try.prog 12 #[.pointer (some ⟨p, 0, none⟩), .int .i64 k, .slice (some ⟨gb, ob, none⟩) 512 cb] w fun e w' => e = .returned (.int .i64 0) ∧ DevAt w' p { calledD d with clock := clockP lo k d.clock } mf ml nf (nl + 1) G (putL lo k b d.clock) ∧ Chg (fun i => i = p ∨ i = ml) w w' :=
  write_ok (d1 := calledD d) (counts_plain H hd ha hc) hd h0 hn hk hb hbp fb hl hnl
theorem flush_step (H : DevAt w p d mf ml nf nl G lo) (hd : d.down = false) (ha : d.armed ≤ 0) (hc : 0 ≤ d.calls ∧ d.calls ≤ 1000000) (hl : d.clock ≤ 1000000) (hnl : nl ≤ 1000000) (hnf : nf + lo.length ≤ 1000000) :
    Calls Try.prog 19 #[.pointer (some ⟨p, 0, none⟩)] w fun e w' => e = .returned (.int .i64 0) ∧ DevAt w' p (calledD d) mf ml (nf + lo.length) nl (settleG resF 0 G lo) [] ∧ Chg (fun i => i = p ∨ i = mf ∨ i = ml) w w' :=
  flush_true (d1 := calledD d) H hd hl hnl hnf (counts_plain H hd ha hc)
end
theorem Laid.cells {w w' : World} {b : Blk} (h : Laid w w' b) : CellsAt w' w.heap.size 0 (blkCells b) := cellsAt_blk h.1
end Go.Proofs.Ytedcpmkfanlicaa
