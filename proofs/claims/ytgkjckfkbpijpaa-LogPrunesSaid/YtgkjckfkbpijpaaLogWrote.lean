/- commit.wrote by its contract: does some key of a rising list lie in a span? -/
import Derived.Test.YtgkjckfkbpijpaaLogSearch
namespace Go.Proofs.Ytgkjckfkbpijpaa
open Go Go.RowKit Go.Sort Go.Lib
attribute [local go_sem ↓] run_size24 run_size49
attribute [local simp high] run_size24x run_size49x

/-- a slice value that reads as a list of keys -/
def KeysIn (w : World) (sl : Value) (ks : List Key) : Prop := ∃ a cap, sl = .slice a ks.length cap ∧ (0 < ks.length → ∃ b off, a = some ⟨b, off, none⟩ ∧ KeysAt w b off ks)
theorem KeysIn.ext {w w' : World} {sl : Value} {ks : List Key} (h : KeysIn w sl ks) (X : Ext w w') : KeysIn w' sl ks := by
  obtain ⟨a, cap, e, h⟩ := h
  exact ⟨a, cap, e, fun hp => let ⟨b, off, e, k⟩ := h hp; ⟨b, off, e, k.ext X⟩⟩
def hit (ks : List Key) (s : Sp) : Bool := ks.any fun k => inSp k s

theorem search_any (ks : List Key) (t : Key) (a : Option Addr) (cap : Nat) (w : World) (hb : ks.length ≤ 4611686018427387904) (hc : 0 < ks.length → ∃ b off, a = some ⟨b, off, none⟩ ∧ KeysAt w b off ks) (hr : Rising ks) :
    Calls Try.prog 28 #[.slice a ks.length cap, keyV t, .func (.func 19) #[] #[]] w fun e w' =>
      ∃ p : Nat × Bool, e = .returned (.tuple #[.int .i64 p.1, .bool p.2]) ∧ Under ks t p.1 ∧ Ext w w' := by
  by_cases hn : 0 < ks.length
  · obtain ⟨b, off, rfl, k⟩ := hc hn
    exact search_some ks t b off cap w hn hb k hr
  · have : ks = [] := List.eq_nil_of_length_eq_zero (by omega)
    subst this
    exact search_none t a cap w

theorem hit_none {ks : List Key} {s : Sp} {m : Nat} (h : Under ks s.fr m) (hm : ks.length ≤ m) : hit ks s = false := by
  unfold hit
  rw [List.any_eq_false]
  intro k hk
  obtain ⟨i, hi, rfl⟩ := List.getElem_of_mem hk
  simp [inSp, h.2.1 i (by omega) hi]
theorem hit_end {ks : List Key} {s : Sp} {m : Nat} (h : Under ks s.fr m) (hm : m < ks.length) (he : s.en = true) : hit ks s = true := by
  unfold hit
  rw [List.any_eq_true]
  exact ⟨ks[m], List.getElem_mem hm, by simp [inSp, h.2.2 m (Nat.le_refl _) hm, he]⟩
theorem hit_test {ks : List Key} {s : Sp} {m : Nat} (h : Under ks s.fr m) (hr : Rising ks) (hm : m < ks.length) (he : s.en = false) : hit ks s = decide (cmpK ks[m] s.to < 0) := by
  unfold hit
  rw [Bool.eq_iff_iff, List.any_eq_true, decide_eq_true_iff, cmpK_lt]
  constructor
  · rintro ⟨k, hk, hi⟩
    obtain ⟨i, hi', rfl⟩ := List.getElem_of_mem hk
    simp [inSp, he] at hi
    have hmi : m ≤ i := by
      by_cases hlt : i < m
      · have := h.2.1 i hlt hi'; rw [hi.1] at this; exact absurd this (by simp)
      · omega
    by_cases e : m = i
    · subst e; exact hi.2
    · exact leK_ltK (hr m i (by omega) hi') hi.2
  · intro ht
    exact ⟨ks[m], List.getElem_mem hm, by simp [inSp, h.2.2 m (Nat.le_refl _) hm, he, ht]⟩

set_option maxHeartbeats 1000000 in
theorem wrote_any (num : Int) (sl : Value) (ks : List Key) (s : Sp) (w : World) (hb : ks.length ≤ 4611686018427387904) (hc : KeysIn w sl ks) (hr : Rising ks) :
    Calls Try.prog 21 #[.agg #[.int .i64 num, sl], spanV s] w fun e w' => e = .returned (.bool (hit ks s)) ∧ Ext w w' := by
  have mixed := Try.mixed
  have k1 : ¬ K24 = 0 := by decide
  obtain ⟨a, cap, rfl, hk⟩ := hc
  have sr := fun wr (X : Ext w wr) => search_any ks s.fr a cap wr hb (fun hp => let ⟨b, off, e, k⟩ := hk hp; ⟨b, off, e, k.ext X⟩) hr
  generalize hlen : ks.length = n at hk hb sr ⊢
  have HN := Lib.hid hlen
  have SR := Lib.hid sr
  clear hlen sr
  have E0 : Hid (Ext w ((w.alloc (.cells #[.int .i64 num, .slice a n cap] 51)).alloc (.cells (spanCells s).toArray 26))) := ((Ext.refl w).alloc _).alloc _
  have C2 : CellsAt ((w.alloc (.cells #[.int .i64 num, .slice a n cap] 51)).alloc (.cells (spanCells s).toArray 26)) (w.heap.size + 1) 0 (spanCells s) := by
    have h2 := cellsAt_new (w.alloc (.cells #[.int .i64 num, .slice a n cap] 51)) (spanCells s) 26
    simp only [World.size_alloc] at h2; exact h2
  have C1 : ((w.alloc (.cells #[.int .i64 num, .slice a n cap] 51)).alloc (.cells (spanCells s).toArray 26)).cell? ⟨w.heap.size, 1, none⟩ = some (.slice a n cap) := by
    exact (((Ext.refl _).alloc _).cell (cell_of_row _ _ _ _ _ _ (heap_alloc_new w _)))
  have L : ∀ wr, Ext ((w.alloc (.cells #[.int .i64 num, .slice a n cap] 51)).alloc (.cells (spanCells s).toArray 26)) wr →
      Sem.run Try.prog (loadCellsFrom ⟨w.heap.size + 1, 0, none⟩ 0 K24 #[]) wr = .ok (keyCells s.fr).toArray wr ∧
      Sem.run Try.prog (loadCellsFrom ⟨w.heap.size + 1, 24, none⟩ 0 K24 #[]) wr = .ok (keyCells s.to).toArray wr ∧
      wr.cell? ⟨w.heap.size + 1, 48, none⟩ = some (.bool s.en) ∧ wr.cell? ⟨w.heap.size, 1, none⟩ = some (.slice a n cap) := fun wr X =>
    ⟨(X.cells (spanFr C2)).load _ K24 (keyCells_length _), by have := (X.cells (spanTo C2)).load Try.prog K24 (keyCells_length _); rwa [Nat.zero_add] at this, by have := X.cell (spanEn C2); rwa [Nat.zero_add] at this, X.cell C1⟩
  have HL := Lib.hid L
  have HK : Hid (0 < n → ∃ b off, a = some ⟨b, off, none⟩ ∧ KeysAt w b off ks) := hk
  have HR := Lib.hid hr
  clear L C1 C2 hk hr
  obtain ⟨l1, l2, l3, l4⟩ := HL.out _ (Ext.refl _)
  unfold spanV
  go_enter Try.func21, Try.ntmps21
  go_wp2_with fail
  refine (SR.out _ (((Ext.refl w).alloc _).alloc _)).mono ?_
  rintro e w2 ⟨⟨m, fnd⟩, rfl, U, X2⟩
  have hU : Hid (Under ks s.fr m) := U
  clear U
  obtain ⟨l1, l2, l3, l4⟩ := HL.out _ X2
  go_wp2_with fail
  have hmn : m ≤ n := by have := HN.out; have := hU.out.1; omega
  by_cases hlt : m < n
  · have hd : decide ((m : Int) < (n : Int)) = true := by simp; omega
    obtain ⟨b, off, ha, hka⟩ := HK.out (by omega)
    subst ha
    have hm : m < ks.length := by have := HN.out; omega
    by_cases he : s.en = true
    · have R : Hid (hit ks s = true) := hit_end hU.out hm he
      have c1 : ∀ n', (w2.drewN n').cell? ⟨w.heap.size + 1, 48, none⟩ = some (.bool true) := fun n' => by
        have := (HL.out _ (X2.drewN n')).2.2.1; rw [he] at this; exact this
      have c2 : ∀ n', (w2.drewN n').cell? ⟨w.heap.size, 1, none⟩ = some (.slice (some ⟨b, off, none⟩) n cap) := fun n' => (HL.out _ (X2.drewN n')).2.2.2
      clear l1 l2 l3 l4 he
      go_quiet (fail)
      go_wp2
      go_ret
      exact ⟨retB R.out.symm, E0.out.trans (X2.drewN nq)⟩
    · have he : s.en = false := by simpa using he
      have R : Hid (hit ks s = decide (cmpK ks[m] s.to < 0)) := hit_test hU.out HR.out hm he
      obtain ⟨y, hy⟩ : ∃ y, y = ks[m] := ⟨_, rfl⟩
      have c1 : ∀ n' os, (grow (w2.drewN n') os).cell? ⟨w.heap.size + 1, 48, none⟩ = some (.bool false) := fun n' os => by
        have := (HL.out _ (X2.grow n' os)).2.2.1; rw [he] at this; exact this
      have c2 : ∀ n' os, (grow (w2.drewN n') os).cell? ⟨w.heap.size, 1, none⟩ = some (.slice (some ⟨b, off, none⟩) n cap) := fun n' os => (HL.out _ (X2.grow n' os)).2.2.2
      have c3 : ∀ n' os, Sem.run Try.prog (loadCellsFrom ⟨b, off + m * K24, none⟩ 0 K24 #[]) (grow (w2.drewN n') os) = .ok (keyCells y).toArray (grow (w2.drewN n') os) := fun n' os => by
        rw [hy]; exact (((E0.out.trans X2).grow n' os).cells (hka m hm)).load _ K24 (keyCells_length _)
      have c4 : ∀ n' os, Sem.run Try.prog (loadCellsFrom ⟨w.heap.size + 1, 24, none⟩ 0 K24 #[]) (grow (w2.drewN n') os) = .ok (keyCells s.to).toArray (grow (w2.drewN n') os) := fun n' os => (HL.out _ (X2.grow n' os)).2.1
      have cmp := fun n os => Calls.grown_ext (compare_any y s.to (grow (w2.drewN n) os))
      have Y : Hid (hit ks s = decide (cmpK y s.to < 0)) := by show _ = _; rw [hy]; exact R.out
      clear l1 l2 l3 l4 he hy hka R
      go_quiet_grown (first | (go_at_call 19; exact cmp _ _))
      go_wp2
      go_ret
      exact ⟨retB Y.out.symm, E0.out.trans (X2.grow nq osq)⟩
  · have hd : decide ((m : Int) < (n : Int)) = false := by simp; omega
    have R : Hid (hit ks s = false) := hit_none hU.out (by have := HN.out; omega)
    have c2 : ∀ n', (w2.drewN n').cell? ⟨w.heap.size, 1, none⟩ = some (.slice a n cap) := fun n' => (HL.out _ (X2.drewN n')).2.2.2
    clear l1 l2 l3 l4
    go_quiet (fail)
    go_wp2
    go_ret
    exact ⟨retB R.out.symm, E0.out.trans (X2.drewN nq)⟩
end Go.Proofs.Ytgkjckfkbpijpaa
