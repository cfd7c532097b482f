/- slices.BinarySearchFunc at a sorted list of keys, with log.compare: how many keys are less than the target. -/
import Derived.Test.YtgkjckfkbpijpaaLogIn
namespace Go.Proofs.Ytgkjckfkbpijpaa
open Go Go.RowKit Go.Sort Go.Lib
attribute [local go_sem ↓] run_size24 run_size49
attribute [local simp high] run_size24x run_size49x

/-- a row of keys, from an address on -/
def KeysAt (w : World) (b off : Nat) (ks : List Key) : Prop := ∀ i (h : i < ks.length), CellsAt w b (off + i * K24) (keyCells ks[i])
theorem KeysAt.ext {w w' : World} {b off : Nat} {ks : List Key} (h : KeysAt w b off ks) (X : Ext w w') : KeysAt w' b off ks := fun i hi => X.cells (h i hi)

/-- rising: nothing stands behind what is greater -/
def Rising (ks : List Key) : Prop := ∀ i j (_ : i < j) (hj : j < ks.length), ltK ks[j] (ks[i]'(by omega)) = false

/-- how many keys of a rising list are less than a key -/
def Under (ks : List Key) (t : Key) (m : Nat) : Prop := m ≤ ks.length ∧ (∀ i (_ : i < m) (h : i < ks.length), ltK ks[i] t = true) ∧ (∀ i (_ : m ≤ i) (h : i < ks.length), ltK ks[i] t = false)

set_option maxHeartbeats 1000000 in
theorem search_some (ks : List Key) (t : Key) (b off cap : Nat) (w : World) (hn : 0 < ks.length) (hb : ks.length ≤ 4611686018427387904) (hc : KeysAt w b off ks) (hr : Rising ks) :
    Calls Try.prog 28 #[.slice (some ⟨b, off, none⟩) ks.length cap, keyV t, .func (.func 19) #[] #[]] w fun e w' =>
      ∃ p : Nat × Bool, e = .returned (.tuple #[.int .i64 p.1, .bool p.2]) ∧ Under ks t p.1 ∧ Ext w w' := by
  have mixed := Try.mixed
  have k1 : ¬ K24 = 0 := by decide
  have HR := Lib.hid hr
  have HC := Lib.hid hc
  clear hr hc
  have T0 : Hid (CellsAt (w.alloc (.cells (keyCells t).toArray 24)) w.heap.size 0 (keyCells t)) := cellsAt_new w (keyCells t) 24
  have E0 : Hid (Ext w (w.alloc (.cells (keyCells t).toArray 24))) := (Ext.refl w).alloc _
  generalize hlen : ks.length = n at hn hb ⊢
  have HN := Lib.hid hlen
  clear hlen
  unfold keyV
  go_enter Try.func28, Try.ntmps28
  go_wp2
  generalize w.alloc (.cells (keyCells t).toArray 24) = w1 at T0 E0 ⊢
  go_loopg [9, 10] n (fun kx s9 s10 wr => ∃ lo hi : Nat, s9 = .int .i64 lo ∧ s10 = .int .i64 hi ∧ lo ≤ hi ∧ hi ≤ n ∧ hi - lo ≤ kx ∧ Aside (Ext w1 wr) ∧
    Aside ((∀ i (_ : i < lo) (h : i < ks.length), ltK ks[i] t = true) ∧ (∀ i (_ : hi ≤ i) (h : i < ks.length), ltK ks[i] t = false)))
  case atStart => exact ⟨0, n, rfl, rfl, Nat.zero_le _, Nat.le_refl _, by omega, Ext.refl _, (⟨fun i h => absurd h (by omega), fun i h1 h2 => by have := HN.out; omega⟩ : (∀ i (_ : i < 0) (h : i < ks.length), ltK ks[i] t = true) ∧ (∀ i (_ : n ≤ i) (h : i < ks.length), ltK ks[i] t = false))⟩
  case round =>
    obtain ⟨lo, hi, rfl, rfl, hlh, hin, hg, X, I⟩ := hrel
    by_cases hlt : lo < hi
    · have hm : (lo + hi) / 2 < ks.length := by have := HN.out; omega
      obtain ⟨y, hy⟩ : ∃ y, y = ks[(lo + hi) / 2] := ⟨_, rfl⟩
      have ld : ∀ n os, Sem.run Try.prog (loadCellsFrom ⟨b, off + (lo + hi) / 2 * K24, none⟩ 0 K24 #[]) (grow (wr.drewN n) os) = .ok (keyCells y).toArray (grow (wr.drewN n) os) := fun n os => by
        rw [hy]; exact (((E0.out.trans X.out).grow n os).cells (HC.out _ hm)).load _ K24 (keyCells_length _)
      have lt : ∀ n os, Sem.run Try.prog (loadCellsFrom ⟨w.heap.size, 0, none⟩ 0 K24 #[]) (grow (wr.drewN n) os) = .ok (keyCells t).toArray (grow (wr.drewN n) os) := fun n os =>
        ((X.out.grow n os).cells T0.out).load _ K24 (keyCells_length _)
      have Y : Aside (y = ks[(lo + hi) / 2]) := hy
      clear hy
      have cmp := fun n os => Calls.grown_ext (compare_any y t (grow (wr.drewN n) os))
      have z1 : (0 : Int) ≤ ((lo : Int) + (hi : Int)) / 2 := by omega
      have z2 : ((lo : Int) + (hi : Int)) / 2 < (n : Int) := by omega
      have z3 : (((lo : Int) + (hi : Int)) / 2).toNat = (lo + hi) / 2 := by omega

      by_cases hyx : cmpK y t < 0
      · have I2 : Aside ((∀ i (_ : i < (lo + hi) / 2 + 1) (h : i < ks.length), ltK ks[i] t = true) ∧ (∀ i (_ : hi ≤ i) (h : i < ks.length), ltK ks[i] t = false)) :=
          ⟨fun i h1 h2 => by
            have ht : ltK y t = true := (cmpK_lt _ _).1 hyx
            by_cases e : i = (lo + hi) / 2
            · subst e; rw [← Y.out]; exact ht
            · have := HR.out i ((lo + hi) / 2) (by omega) (by have := HN.out; omega)
              rw [← Y.out] at this
              exact leK_ltK this ht, I.out.2⟩
        go_wp2
        go_quiet_grown ((go_at_call 19; exact cmp _ _))
        go_wp2
        go_roundg (hi - ((lo + hi) / 2 + 1))
        case measure => omega
        case rel => exact ⟨(lo + hi) / 2 + 1, hi, by rw [show ((lo : Int) + (hi : Int)) / 2 + 1 = (((lo + hi) / 2 + 1 : Nat) : Int) by omega], rfl, by omega, hin, Nat.le_refl _, X.out.grow nq osq, I2⟩
      · have I2 : Aside ((∀ i (_ : i < lo) (h : i < ks.length), ltK ks[i] t = true) ∧ (∀ i (_ : (lo + hi) / 2 ≤ i) (h : i < ks.length), ltK ks[i] t = false)) :=
          ⟨I.out.1, fun i h1 h2 => by
            have ht : ltK y t = false := by cases e : ltK y t with | false => rfl | true => exact absurd ((cmpK_lt _ _).2 e) hyx
            by_cases e : i = (lo + hi) / 2
            · subst e; rw [← Y.out]; exact ht
            · have := HR.out ((lo + hi) / 2) i (by omega) h2
              rw [← Y.out] at this
              exact leK_trans ht this⟩
        go_wp2
        go_quiet_grown ((go_at_call 19; exact cmp _ _))
        go_wp2
        go_roundg ((lo + hi) / 2 - lo)
        case measure => omega
        case rel => exact ⟨lo, (lo + hi) / 2, rfl, by rw [show ((lo : Int) + (hi : Int)) / 2 = (((lo + hi) / 2 : Nat) : Int) by omega], by omega, by omega, Nat.le_refl _, X.out.grow nq osq, I2⟩
    · obtain rfl : hi = lo := by omega
      have U : Aside (Under ks t hi) := ⟨by have := HN.out; omega, fun i h1 h2 => I.out.1 i h1 h2, fun i h1 h2 => I.out.2 i h1 h2⟩
      clear I
      by_cases hn2 : hi < n
      · have hm : hi < ks.length := by have := HN.out; omega
        obtain ⟨y, hy⟩ : ∃ y, y = ks[hi] := ⟨_, rfl⟩
        have ld : ∀ n os, Sem.run Try.prog (loadCellsFrom ⟨b, off + hi * K24, none⟩ 0 K24 #[]) (grow (wr.drewN n) os) = .ok (keyCells y).toArray (grow (wr.drewN n) os) := fun n os => by
          rw [hy]; exact (((E0.out.trans X.out).grow n os).cells (HC.out _ hm)).load _ K24 (keyCells_length _)
        have lt : ∀ n os, Sem.run Try.prog (loadCellsFrom ⟨w.heap.size, 0, none⟩ 0 K24 #[]) (grow (wr.drewN n) os) = .ok (keyCells t).toArray (grow (wr.drewN n) os) := fun n os =>
          ((X.out.grow n os).cells T0.out).load _ K24 (keyCells_length _)
        clear hy
        have cmp := fun n os => Calls.grown_ext (compare_any y t (grow (wr.drewN n) os))
        go_wp2
        go_quiet_grown ((go_at_call 19; exact cmp _ _))
        go_wp2
        go_ret2
        exact ⟨(hi, _), rfl, U.out, E0.out.trans (X.out.grow nq osq)⟩
      · have hd : decide ((hi : Int) < (n : Int)) = false := by simp; omega
        go_wp2
        go_quiet (fail)
        go_wp2
        go_ret2
        exact ⟨(hi, _), rfl, U.out, E0.out.trans (X.out.drewN nq)⟩

set_option maxHeartbeats 1000000 in
theorem search_none (t : Key) (a : Option Addr) (cap : Nat) (w : World) :
    Calls Try.prog 28 #[.slice a 0 cap, keyV t, .func (.func 19) #[] #[]] w fun e w' =>
      ∃ p : Nat × Bool, e = .returned (.tuple #[.int .i64 p.1, .bool p.2]) ∧ Under [] t p.1 ∧ Ext w w' := by
  have mixed := Try.mixed
  have k1 : ¬ K24 = 0 := by decide
  have E0 : Hid (Ext w (w.alloc (.cells (keyCells t).toArray 24))) := (Ext.refl w).alloc _
  have z : decide ((0 : Int) < 0) = false := by decide
  unfold keyV
  go_enter Try.func28, Try.ntmps28
  go_wp2
  refine wp_loop_rounds 1 ?_
  rw [rounds_succ]
  go_wp2
  go_quiet (fail)
  go_wp2
  go_ret2
  exact ⟨(0, _), rfl, ⟨Nat.le_refl _, fun i h => absurd h (by omega), fun i h1 h2 => absurd h2 (by simp)⟩, E0.out.drewN nq⟩
end Go.Proofs.Ytgkjckfkbpijpaa
