/- Len of a log: how many keys are known. -/
import Derived.Test.YtgkjckfkbpijpaaLogSmall
set_option linter.unusedVariables false
set_option linter.unusedSimpArgs false
namespace Go.Proofs.Ytgkjckfkbpijpaa
open Go Go.RowKit Go.Sort Go.Lib

/-- the sum of the commits' keys -/
def total (cs : List Cm) : Nat := (cs.map fun c => c.ks.length).sum
theorem total_take_succ (cs : List Cm) (i : Nat) (h : i < cs.length) : total (cs.take (i + 1)) = total (cs.take i) + cs[i].ks.length := by
  unfold total
  rw [List.take_succ_eq_append_getElem h, List.map_append, List.sum_append]
  simp
theorem total_take_le (cs : List Cm) (i : Nat) : total (cs.take i) ≤ total cs := by
  have : total cs = total (cs.take i) + total (cs.drop i) := by
    unfold total
    rw [← List.sum_append, ← List.map_append, List.take_append_drop]
  omega

theorem owns_len {w : World} {B e k n : Nat} {v : Value} {xs : List Value} (h : w.ownsRow B e k v n xs) : ∃ a c, v = .slice a n c := by
  rcases owns_shape h with ⟨rfl, rfl⟩ | ⟨g, cap, hv, _⟩
  · exact ⟨_, _, rfl⟩
  · exact ⟨_, _, hv⟩

theorem LogAt.cmCell {w : World} {B p : Nat} {cs : List Cm} {last floor : Int} {g cap : Nat} (h : LogAt w B p (.slice (some ⟨g, 0, none⟩) cs.length cap) cs last floor) (i : Nat) (hi : i < cs.length) :
    w.cell? ⟨g, i * 2, none⟩ = some (.int .i64 cs[i].num) ∧ w.cell? ⟨g, i * 2 + 1, none⟩ = some cs[i].sl := by
  have hc := owns_cells h.own rfl
  have e1 := flat_get cmCells_length cs i 0 hi (by decide)
  have e2 := flat_get cmCells_length cs i 1 hi (by decide)
  have c1 := hc (i * 2 + 0) _ e1
  have c2 := hc (i * 2 + 1) _ e2
  rw [Nat.zero_add] at c1 c2
  exact ⟨c1, c2⟩

set_option maxHeartbeats 1000000 in
theorem len_any (w : World) (B p : Nat) (v : Value) (cs : List Cm) (last floor : Int) (h : LogAt w B p v cs last floor) (ht : total cs ≤ 9223372036854775807) : Calls Try.prog 16 #[.pointer (some ⟨p, 0, none⟩)] w fun e w' =>
    e = .returned (.int .i64 (total cs)) ∧ Ext w w' := by
  have c0 := (cell_of_blk h.blk (j := 0) rfl).1
  have hn : cs.length ≤ 9223372036854775807 := by
    rcases owns_shape h.own with ⟨_, h0⟩ | ⟨g, cap, _, _, _, h1, h2⟩
    · omega
    · unfold maxLen at h2; omega
  obtain ⟨a, cap, hv⟩ := owns_len h.own
  subst hv
  have H := Lib.hid h
  have T : Hid (total cs ≤ 9223372036854775807) := ht
  clear h ht
  generalize hlen : cs.length = n at c0 hn
  have N := Lib.hid hlen
  clear hlen
  go_enter Try.func16, Try.ntmps16
  go_wp2
  go_loopw [3, 11] (fun s3 s11 wr => ∃ i : Nat, i ≤ n ∧ s11 = .int .i64 i ∧ s3 = .int .i64 (total (cs.take i)) ∧ Aside (Ext w wr)) (fun _ s11 _ => n - (intOf s11).toNat)
  case atStart => exact ⟨0, Nat.zero_le _, rfl, by simp [total], Ext.refl _⟩
  case round =>
    obtain ⟨i, hi, rfl, rfl, X⟩ := hrel
    by_cases hlt : i < n
    · have hil : i < cs.length := by have := N.out; omega
      have K : Hid (total (cs.take (i + 1)) = total (cs.take i) + cs[i].ks.length) := total_take_succ cs i hil
      have kb : total (cs.take i) + cs[i].ks.length ≤ 9223372036854775807 := by have := K.out; have := total_take_le cs (i + 1); have := T.out; omega
      obtain ⟨a', c', hsl⟩ := owns_len (H.out.keys cs[i] (List.getElem_mem hil)).1
      have hsh := owns_shape H.out.own
      rcases hsh with ⟨_, h0⟩ | ⟨g, cap', hv, _⟩
      · omega
      simp only [Value.slice.injEq, true_and] at hv
      obtain ⟨rfl, -⟩ := hv
      have q1 : wr.cell? ⟨g, i * 2, none⟩ = some (.int .i64 cs[i].num) := X.out.cell (H.out.cmCell i hil).1
      have q2 : wr.cell? ⟨g, i * 2 + 1, none⟩ = some (.slice a' cs[i].ks.length c') := by have := X.out.cell (H.out.cmCell i hil).2; rw [hsl] at this; exact this
      generalize hks : cs[i].ks.length = m at K kb q2
      clear hsl hks
      go_wp2
      go_roundw
      case rel =>
        exact ⟨i + 1, by omega, by go_num, by rw [K.out]; go_num, X.out.alloc _⟩
      case measure => simp [intOf]; omega
    · obtain rfl : i = n := by omega
      have E : Hid (total (cs.take i) = total cs) := by show _ = _; rw [List.take_of_length_le (by have := N.out; omega)]
      go_wp2
      go_ret
      exact ⟨retI (by rw [E.out]), X.out⟩
end Go.Proofs.Ytgkjckfkbpijpaa
