/- reads: what a device and the reference's say of a block. -/
import Derived.Test.YtedcpmkfanlicaaRfSim
set_option linter.unusedVariables false
set_option linter.unusedSimpArgs false
namespace Go.Proofs.Ytedcpmkfanlicaa
open Go Go.RowKit Go.Sort Go.Lib Go.Maps Go.Deep
section
variable {w : World} {L : Loc} {s : St} {m : Nat} {R : Rl} {r : Rf}
theorem cells_set {w : World} {g t : Nat} {cs : Array Value} (h : w.heap[g]? = some (.cells cs 65 (0, 0))) (v : Value) : (w.setCell ⟨g, t, none⟩ v).heap[g]? = some (.cells (cs.setIfInBounds t v) 65 (0, 0)) := heap_setCell_same w g t _ 65 _ h
set_option maxHeartbeats 2000000 in
set_option maxRecDepth 100000 in
theorem reads_any (D : DvIs w L s m) (H : RfIs w R r) (h : Sim s r m) (k : Int) : Calls Try.prog 42 #[.pointer (some ⟨L.p, 0, none⟩), .pointer (some ⟨R.p, 0, none⟩), .int .i64 k] w fun e w' => e = .returned (.bool true) ∧ Chg (fun _ => False) w w' := by
  by_cases hm : mayS s k = 0
  · have hk : wfK k := by
      have hb := h.nb
      unfold mayS at hm
      split at hm
      · cases hm
      · split at hm
        · cases hm
        · exact (wfK_iff k).2 ⟨by omega, by omega⟩
    have q := Lib.hid (read_st D hk hm)
    have HH := Lib.hid H
    have fu : Hid (Full (newest s.G s.lo k)) := D.fullN k
    have hr : (if mayR r k = 0 then newestR r.L k else ⟨#[]⟩) = strB (newest s.G s.lo k) := by rw [h.may, if_pos hm, h.newest]
    have hr2 : mayR r k = 0 := by rw [h.may, hm]
    have HR := Lib.hid hr
    have HR2 := Lib.hid hr2
    clear D H h hm hr hr2 hk
    go_enter Try.func42, Try.ntmps42
    go_wp2_with fail
    refine q.out.mono ?_
    rintro e w1 ⟨rfl, B, X⟩
    have q2 := readR_any (HH.out.ext X) k
    rw [HR.out, HR2.out] at q2
    have q2 := Lib.hid q2
    have X := Lib.hid X
    have B := Lib.hid B
    clear q HR HR2
    go_wp2_with fail
    refine q2.out.mono ?_
    rintro e w2 ⟨rfl, X2⟩
    have gl : Hid (w.heap.size < w1.heap.size) := blk_lt B.out
    have B2 : Hid (w2.heap[w.heap.size]? = some (.cells (blkCells (newest s.G s.lo k)).toArray 65 (0, 0))) := by show _ = _; rw [X2.block _ gl.out id]; exact B.out
    have Y : Hid (Chg (fun _ => False) w w2) := X.out.trans X2 (fun _ _ h => h)
    have cv : (convert 31 9 (.slice (some ⟨w.heap.size, 0, none⟩) 512 512)).run Try.prog w2 = .ok (.string (strB (newest s.G s.lo k))) w2 := conv_blk _ fu.out.1 _ _ 0 512 (cellsAt_blk B2.out)
    have B3 : Hid (∃ cs : Array Value, w2.heap[w.heap.size]? = some (.cells cs 65 (0, 0)) ∧ cs.size = 512) := ⟨_, B2.out, by rw [List.size_toArray, blkCells_length]; exact fu.out.1⟩
    clear q2 X2 X B B2 fu
    generalize strB (newest s.G s.lo k) = sv at cv ⊢
    go_upto_region 4 with fail
    clear cv
    obtain ⟨g, hg⟩ : ∃ g, g = w.heap.size := ⟨_, rfl⟩
    rw [← hg] at B3 gl ⊢
    have G0 : Hid (w.heap.size ≤ g) := by show _ ≤ _; omega
    clear hg gl
    go_wp2
    go_loopg [12] 512 (fun kx s12 wr => ∃ t : Nat, s12 = .int .i64 t ∧ t ≤ 512 ∧ 512 - t ≤ kx ∧ Aside (∃ cs : Array Value, wr.heap[g]? = some (.cells cs 65 (0, 0)) ∧ cs.size = 512) ∧ Aside (Chg (fun i => i = g) w2 wr))
    case atStart => exact ⟨0, rfl, Nat.zero_le _, by omega, B3.out, Chg.refl _ _⟩
    case round =>
      clear B3
      obtain ⟨t, rfl, ht, hgk, B, X⟩ := hrel
      have X : Hid (Chg (fun i => i = g) w2 wr) := X
      by_cases hlt : t < 512
      · have z1 : (t : Int) < 512 := by omega
        have z0 : (0 : Int) ≤ (t : Int) := by omega
        obtain ⟨cs, hb, hs⟩ := B.out
        obtain ⟨v0, hc⟩ : ∃ v, cs[t]? = some v := ⟨_, Array.getElem?_eq_getElem (by omega)⟩
        have c0 := (cell_of_blk hb hc).1
        have f0 := (cell_of_blk hb hc).2
        have HB := Lib.hid hb
        have HS := Lib.hid hs
        clear hb hs hc B
        go_wp2
        go_roundg (512 - (t + 1))
        case measure => omega
        case rel => exact ⟨t + 1, by go_num, by omega, Nat.le_refl _, ⟨_, cells_set HB.out _, by rw [Array.size_setIfInBounds]; exact HS.out⟩, X.out.trans (chg_setCell wr ⟨g, t, none⟩ _) (fun i hi e => e)⟩
      · have z1 : ¬ (t : Int) < 512 := by omega
        go_wp2
        go_ret
        exact ⟨rfl, Y.out.trans X.out (fun i hi e => by have := G0.out; omega)⟩
  · obtain ⟨e, he⟩ : ∃ e, e = mayS s k := ⟨_, rfl⟩
    have q := read_st_no D k hm
    rw [← he] at q
    have q := Lib.hid q
    have q2 := readR_any H k
    have hr2 : mayR r k = e := by rw [h.may, he]
    rw [hr2, if_neg (by rw [he]; exact hm)] at q2
    have q2 := Lib.hid q2
    clear D H h hm hr2 he
    go_enter Try.func42, Try.ntmps42
    go_wp2_with fail
    refine q.out.mono ?_
    rintro e' w1 ⟨rfl, hw⟩
    have hw := hw.symm
    subst hw
    go_wp2_with fail
    refine q2.out.mono ?_
    rintro e' w2 ⟨rfl, X2⟩
    have X2 := Lib.hid X2
    clear q q2
    have cv : (convert 31 9 (.slice none 0 0)).run Try.prog w2 = .ok (.string ⟨#[]⟩) w2 := run_convert_bytes_nil (P := Try.prog) w2 31 5 Try.underlying31 Try.underlying5 0 0 9 Try.underlying9
    go_wp2
    go_loopg [12] 1 (fun kx s12 wr => s12 = .int .i64 0 ∧ w2 = wr)
    case atStart => exact ⟨rfl, rfl⟩
    case round =>
      obtain ⟨rfl, rfl⟩ := hrel
      go_wp2
      go_ret
      exact ⟨rfl, X2.out⟩
end
end Go.Proofs.Ytedcpmkfanlicaa
