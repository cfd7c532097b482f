/- slices.Clone at a list of keys. -/
import Derived.Test.YtgkjckfkbpijpaaLogSort
import Derived.Test.YtgkjckfkbpijpaaOwn
import Derived.Shelf.SlSortCmp.NoneTotal
set_option linter.unusedVariables false
set_option linter.unusedSimpArgs false
namespace Go.Proofs.Ytgkjckfkbpijpaa
open Go Go.RowKit Go.Sort Go.Lib
attribute [local go_sem ↓] run_size24 run_size49
attribute [local simp high] run_size24x run_size49x

theorem info24 : (Try.prog.info? 24).map (fun i => (i.zero, i.size, i.bytes)) = some (some (.agg (Array.replicate 24 (.int .u8 0))), 24, 24) := by kernel_rfl

theorem eql_nil {P : Program} (w : World) (t e : TypeId) (a : Option Addr) (n c : Nat) (h : P.underlying t = some (.slice e)) :
    (binOp .eql t (.slice a n c) (.slice none 0 0)).run P w = .ok (.bool a.isNone) w := by
  simp only [binOp]
  simp [Op.equal, Op.maxDepth, Lib.run_equalIn_slice_nil w 9999 t e a n c 0 0 h]

set_option maxHeartbeats 400000 in
theorem clone_nil (cap : Nat) (w : World) : Calls Try.prog 17 #[.slice none 0 cap] w fun e w' => e = .returned (.slice none 0 0) ∧ w = w' := by
  have hq := fun w => eql_nil (P := Try.prog) w 32 24 none 0 cap Try.underlying32
  go_enter Try.func17, Try.ntmps17
  go_wp2
  go_ret
  exact ⟨rfl, rfl⟩

set_option maxHeartbeats 400000 in
theorem clone_some (a : Addr) (cap : Nat) (ks : List Key) (w : World) (hb : ks.length * 24 ≤ 140737488355328) (hc : CellsAt w a.block a.off (flat keyCells ks)) (hs : 0 < ks.length → a.spot = none) :
    Calls Try.prog 17 #[.slice (some a) ks.length cap] w fun e w' => ∃ v', e = .returned v' ∧ w'.ownsRow w.heap.size 24 24 v' ks.length (flat keyCells ks) ∧ Chg (fun _ => False) w w' := by
  obtain ⟨i0, hi, hz0, hz1, hz2⟩ := info_parts info24
  have hq := fun w => eql_nil (P := Try.prog) w 32 24 (some a) ks.length cap Try.underlying32
  go_enter Try.func17, Try.ntmps17
  have own0 := World.ownsRow_made (e := 24) (size := 24) (base := w.heap.size) w #[] 0 (Nat.le_refl _) (Nat.zero_le _) (by simp)
  have N1 : Hid ((flat keyCells ks).length = ks.length * 24) := flat_length keyCells_length ks
  have N2 : Hid (∀ j u, (flat keyCells ks)[j]? = some u → (w.alloc (.cells #[] 24)).cell? (a.add j) = some u) := fun j u hj => by
    have hp : 0 < ks.length := by
      have := (List.getElem?_eq_some_iff.1 hj).1
      rw [N1.out] at this; omega
    have e : a.add j = ⟨a.block, a.off + j, none⟩ := by
      have := hs hp
      obtain ⟨ab, ao, asp⟩ := a
      simp only at this; subst this
      rw [Addr.add_lit]
    rw [e]; exact hc.alloc _ j u hj
  have N3 : Hid (∀ u ∈ flat keyCells ks, u.oneCell' = true) := flat_one keyCells_one ks
  have HB : Hid (ks.length * 24 ≤ 140737488355328) := hb
  clear hc hs hb
  go_wp2_with (at_builtin; refine wpList_append_own _ rfl _ _ 32 rfl w.heap.size 24 i0 (.agg (Array.replicate 24 (.int .u8 0))) 24 24 Try.underlying32 hi hz0 hz1 hz2 rfl (by decide) _ _ _ rfl own0 a ks.length cap (flat keyCells ks) rfl N1.out N2.out N3.out ?c1 ?c2 ?c3 ?_)
  case c1 => have := HB.out; unfold maxLen; omega
  case c2 => have := HB.out; omega
  case c3 => simp
  intro v' w1 hown hgr _
  go_wp2
  go_ret
  exact ⟨_, rfl, hown, (chg_alloc w _ _).trans hgr.chg (fun i hi h => by simp only [Value.ownBlock, Option.some.injEq] at h; omega)⟩
end Go.Proofs.Ytgkjckfkbpijpaa
