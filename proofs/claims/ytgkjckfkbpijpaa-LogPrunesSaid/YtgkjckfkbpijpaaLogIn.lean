/- The reference's order of keys and its 'in a span' by their contracts. -/
import Derived.Test.YtgkjckfkbpijpaaLogCmp
import Derived.Test.YtgkjckfkbpijpaaOrder
import Derived.Deep.QuietTactic
import Derived.BigQuiet
import Derived.Deep.LoopGhost
set_option linter.unusedVariables false
set_option linter.unusedSimpArgs false
namespace Go.Proofs.Ytgkjckfkbpijpaa
open Go Go.RowKit Go.Sort Go.Lib
attribute [local go_sem ↓] run_size24 run_size49
attribute [local simp high] run_size24x run_size49x

theorem keyCells_get (k : Key) (i : Nat) (h : i < 24) : (keyCells k)[i]? = some (byteV k[i]) := by
  simp [keyCells, List.getElem?_map, h]

theorem retB {a b : Bool} (h : a = b) : Ending.returned (.bool a) = .returned (.bool b) := by rw [h]
theorem retI {k : IntKind} {a b : Int} (h : a = b) : Ending.returned (.int k a) = .returned (.int k b) := by rw [h]

set_option maxHeartbeats 400000 in
theorem less_any (a b : Key) (w : World) :
    Calls Try.prog 15 #[keyV a, keyV b] w fun e w' => e = .returned (.bool (ltK a b)) ∧ Ext w w' := by
  have mixed := Try.mixed
  have C1 : Hid (CellsAt ((w.alloc (.cells (keyCells a).toArray 24)).alloc (.cells (keyCells b).toArray 24)) w.heap.size 0 (keyCells a)) := (cellsAt_new w (keyCells a) 24).alloc _
  have C2 : Hid (CellsAt ((w.alloc (.cells (keyCells a).toArray 24)).alloc (.cells (keyCells b).toArray 24)) (w.heap.size + 1) 0 (keyCells b)) := by
    have h2 := cellsAt_new (w.alloc (.cells (keyCells a).toArray 24)) (keyCells b) 24
    simp only [World.size_alloc] at h2; exact h2
  have E0 : Hid (Ext w ((w.alloc (.cells (keyCells a).toArray 24)).alloc (.cells (keyCells b).toArray 24))) := ((Ext.refl w).alloc _).alloc _
  unfold keyV
  go_enter Try.func15, Try.ntmps15
  go_wp2
  generalize (w.alloc (.cells (keyCells a).toArray 24)).alloc (.cells (keyCells b).toArray 24) = w1 at C1 C2 E0 ⊢
  go_loopg [5] 24 (fun kx s5 wr => ∃ k : Nat, s5 = .int .i64 k ∧ k ≤ 24 ∧ 24 - k ≤ kx ∧ Aside (Ext w1 wr) ∧ Aside (∀ t (_ : t < k) (h : t < 24), a[t] = b[t]))
  case atStart => exact ⟨0, rfl, by omega, by omega, Ext.refl _, (fun t h => absurd h (by omega) : ∀ t (_ : t < 0) (h : t < 24), a[t] = b[t])⟩
  case round =>
    obtain ⟨k, rfl, hk, hg, X, I⟩ := hrel
    by_cases hlt : k < 24
    · have c1 : ∀ n, (wr.drewN n).cell? ⟨w.heap.size, k, none⟩ = some (.int .u8 (a[k].toNat : Int)) := fun n => by
        have := (X.out.drewN n).cell (C1.out k _ (keyCells_get a k hlt)); rwa [Nat.zero_add] at this
      have c2 : ∀ n, (wr.drewN n).cell? ⟨w.heap.size + 1, k, none⟩ = some (.int .u8 (b[k].toNat : Int)) := fun n => by
        have := (X.out.drewN n).cell (C2.out k _ (keyCells_get b k hlt)); rwa [Nat.zero_add] at this
      by_cases he : a[k] = b[k]
      · have t1 : ((a[k].toNat : Int) != (b[k].toNat : Int)) = false := by rw [he]; simp
        have I2 : Aside (∀ t (_ : t < k + 1) (h : t < 24), a[t] = b[t]) := fun t h1 h2 => by
          by_cases e : t = k
          · subst e; exact he
          · exact I.out t (by omega) h2
        clear he
        go_wp2
        go_quiet (fail)
        go_wp2
        go_roundg (24 - (k + 1))
        case measure => omega
        case rel => exact ⟨k + 1, by go_num, by omega, by omega, X.out.drewN nq, I2⟩
      · have hn : (a[k].toNat : Int) ≠ (b[k].toNat : Int) := fun h => he (UInt8.toNat_inj.1 (by omega))
        have t1 : ((a[k].toNat : Int) != (b[k].toNat : Int)) = true := by rw [bne_iff_ne]; exact hn
        have R : Aside (ltK a b = decide (a[k].toNat < b[k].toNat)) := by
          have := ltK_first a b k hlt (fun t h => I.out t h (by omega)) he
          show ltK a b = _
          rw [this]
          congr 1
        clear he hn
        go_wp2
        go_quiet (fail)
        go_wp2
        go_quiet (fail)
        go_wp2
        go_ret
        exact ⟨retB R.out.symm, E0.out.trans ((X.out.drewN _).drewN _)⟩
    · obtain rfl : k = 24 := by omega
      have R : Aside (ltK a b = false) := ltK_none a b (fun t h => I.out t (by omega) h)
      go_wp2
      go_ret
      exact ⟨retB R.out.symm, E0.out.trans X.out⟩

theorem spanFr {w : World} {b off : Nat} {s : Sp} (h : CellsAt w b off (spanCells s)) : CellsAt w b off (keyCells s.fr) := by
  unfold spanCells at h; exact h.left.left
theorem spanTo {w : World} {b off : Nat} {s : Sp} (h : CellsAt w b off (spanCells s)) : CellsAt w b (off + 24) (keyCells s.to) := by
  unfold spanCells at h; have := h.left.right; rwa [keyCells_length] at this
theorem spanEn {w : World} {b off : Nat} {s : Sp} (h : CellsAt w b off (spanCells s)) : w.cell? ⟨b, off + 48, none⟩ = some (.bool s.en) := by
  unfold spanCells at h; have := h.right 0 _ rfl; rwa [List.length_append, keyCells_length, keyCells_length] at this

set_option maxHeartbeats 400000 in
theorem in05_any (k : Key) (s : Sp) (w : World) :
    Calls Try.prog 20 #[keyV k, spanV s] w fun e w' => e = .returned (.bool (inSp k s)) ∧ Ext w w' := by
  have mixed := Try.mixed
  have C1 : CellsAt ((w.alloc (.cells (keyCells k).toArray 24)).alloc (.cells (spanCells s).toArray 26)) w.heap.size 0 (keyCells k) := (cellsAt_new w (keyCells k) 24).alloc _
  have C2 : CellsAt ((w.alloc (.cells (keyCells k).toArray 24)).alloc (.cells (spanCells s).toArray 26)) (w.heap.size + 1) 0 (spanCells s) := by
    have h2 := cellsAt_new (w.alloc (.cells (keyCells k).toArray 24)) (spanCells s) 26
    simp only [World.size_alloc] at h2; exact h2
  have E0 : Hid (Ext w ((w.alloc (.cells (keyCells k).toArray 24)).alloc (.cells (spanCells s).toArray 26))) := ((Ext.refl w).alloc _).alloc _
  have L : ∀ wr, Ext ((w.alloc (.cells (keyCells k).toArray 24)).alloc (.cells (spanCells s).toArray 26)) wr →
      Sem.run Try.prog (loadCellsFrom ⟨w.heap.size, 0, none⟩ 0 K24 #[]) wr = .ok (keyCells k).toArray wr ∧
      Sem.run Try.prog (loadCellsFrom ⟨w.heap.size + 1, 0, none⟩ 0 K24 #[]) wr = .ok (keyCells s.fr).toArray wr ∧
      Sem.run Try.prog (loadCellsFrom ⟨w.heap.size + 1, 24, none⟩ 0 K24 #[]) wr = .ok (keyCells s.to).toArray wr ∧
      wr.cell? ⟨w.heap.size + 1, 48, none⟩ = some (.bool s.en) := fun wr X =>
    ⟨(X.cells C1).load _ K24 (keyCells_length _), (X.cells (spanFr C2)).load _ K24 (keyCells_length _), by have := (X.cells (spanTo C2)).load Try.prog K24 (keyCells_length _); rwa [Nat.zero_add] at this, by have := X.cell (spanEn C2); rwa [Nat.zero_add] at this⟩
  have HL := Lib.hid L
  clear L C1 C2
  obtain ⟨l1, l2, l3, l4⟩ := HL.out _ (Ext.refl _)
  have k1 : ¬ K24 = 0 := by decide
  have g : Hid (inSp k s = (!ltK k s.fr && (s.en || ltK k s.to))) := rfl
  unfold keyV spanV
  go_enter Try.func20, Try.ntmps20
  go_wp2_with fail
  refine (less_any _ _ _).mono ?_
  rintro e w2 ⟨rfl, X2⟩
  obtain ⟨l1, l2, l3, l4⟩ := HL.out _ X2
  go_wp2_with fail
  refine (less_any _ _ _).mono ?_
  rintro e w3 ⟨rfl, X3⟩
  have l5 := (HL.out _ (X2.trans X3)).2.2.2
  clear l1 l2 l3 l4
  go_wp2_with fail
  all_goals go_ret
  all_goals refine ⟨retB ?_, E0.out.trans (X2.trans X3)⟩
  all_goals rw [g.out]
  all_goals clear g HL E0 X2 X3 l5
  all_goals simp [*]

set_option maxHeartbeats 400000 in
theorem in17_any (k : Key) (s : Sp) (w : World) :
    Calls Try.prog 10 #[keyV k, spanV s] w fun e w' => e = .returned (.bool (inSp k s)) ∧ Ext w w' := by
  have l1 : Sem.run Try.prog (loadCellsFrom ⟨w.heap.size, 0, none⟩ 0 K24 #[]) ((w.alloc (.cells (keyCells k).toArray 24)).alloc (.cells (spanCells s).toArray 26)) = .ok (keyCells k).toArray ((w.alloc (.cells (keyCells k).toArray 24)).alloc (.cells (spanCells s).toArray 26)) :=
    ((cellsAt_new w (keyCells k) 24).alloc _).load _ K24 (keyCells_length _)
  have l2 : Sem.run Try.prog (loadCellsFrom ⟨w.heap.size + 1, 0, none⟩ 0 K49 #[]) ((w.alloc (.cells (keyCells k).toArray 24)).alloc (.cells (spanCells s).toArray 26)) = .ok (spanCells s).toArray ((w.alloc (.cells (keyCells k).toArray 24)).alloc (.cells (spanCells s).toArray 26)) := by
    have h2 := (cellsAt_new (w.alloc (.cells (keyCells k).toArray 24)) (spanCells s) 26).load Try.prog K49 (spanCells_length _)
    simp only [World.size_alloc] at h2; exact h2
  have E0 : Hid (Ext w ((w.alloc (.cells (keyCells k).toArray 24)).alloc (.cells (spanCells s).toArray 26))) := ((Ext.refl w).alloc _).alloc _
  have k1 : ¬ K24 = 0 := by decide
  have k2 : ¬ K49 = 0 := by decide
  unfold keyV spanV
  go_enter Try.func10, Try.ntmps10
  go_wp2_with fail
  refine (in05_any _ _ _).mono ?_
  rintro e w2 ⟨rfl, X2⟩
  go_wp2
  go_ret
  exact ⟨rfl, E0.out.trans X2⟩
end Go.Proofs.Ytgkjckfkbpijpaa
