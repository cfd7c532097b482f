/- The order in which a device settles its loose blocks: the closure of settle, by its contract. -/
import Derived.Test.YtedcpmkfanlicaaDvSort
import Derived.Test.YtedcpmkfanlicaaDvRead
import Derived.Deep.QuietTactic
import Derived.BigQuiet
set_option linter.unusedVariables false
set_option linter.unusedSimpArgs false
namespace Go.Proofs.Ytedcpmkfanlicaa
open Go Go.RowKit Go.Sort Go.Lib Go.Maps

def sinceOf (lo : List (Int × Nw)) (k : Int) : Int := match look lo k with | some x => x.since | none => 0
theorem field_since (x : Nw) (h : x.of.length = 512) : (nwCells x)[512]? = some (.int .i64 x.since) := by
  unfold nwCells
  rw [List.getElem?_append_right (by rw [blkCells_length, h]; exact Nat.le_refl _), blkCells_length, h]
  rfl
theorem run_field_since (x : Nw) (h : x.of.length = 512) (w : World) : (Instr.field 67 (.agg (nwCells x).toArray) 1).run Try.prog w = .ok (.int .i64 x.since) w := by
  have c := field_since x h
  unfold Instr.field
  simp only [Sem.run_bind, run_underlying Try.underlying67, Result.andThen]
  simp [part, asAgg, Try.isAgg3, c]
theorem run_field_of (x : Nw) (h : x.of.length = 512) (w : World) : (Instr.field 67 (.agg (nwCells x).toArray) 0).run Try.prog w = .ok (.agg (blkCells x.of).toArray) w := by
  unfold Instr.field
  simp only [Sem.run_bind, run_underlying Try.underlying67, Result.andThen]
  simp [part, asAgg, Try.isAgg65, Try.sizeOf65, nwCells]
  rw [List.take_append_of_le_length (by rw [blkCells_length, h]; exact Nat.le_refl _), List.take_of_length_le (by rw [blkCells_length, h]; exact Nat.le_refl _)]
set_option maxHeartbeats 1000000 in
set_option maxRecDepth 100000 in
theorem cmp_any {w : World} {p g ml nl : Nat} {lo : List (Int × Nw)} (hg : w.cell? ⟨g, 0, none⟩ = some (.pointer (some ⟨p, 0, none⟩))) (hp : w.cell? ⟨p, 2, none⟩ = some (.map (some ml))) (hm : MapIs w ml nl (fun k => (look lo k).map nwV))
    (hf : ∀ x ∈ lo, Full x.2.of) (hy : ∀ x ∈ lo, 0 ≤ x.2.since ∧ x.2.since ≤ 1000000) (a b : Int) (ha : wfK a) (hb : wfK b) :
    Calls Try.prog 47 #[.int .i64 a, .int .i64 b, .pointer (some ⟨g, 0, none⟩)] w fun e w' => e = .returned (.int .i64 (sinceOf lo a - sinceOf lo b)) ∧ ∃ q, w' = w.drewN q := by
  have mixed := Try.mixed
  have key : ∀ k, wfK k → ∃ x : Nw, x.since = sinceOf lo k ∧ x.of.length = 512 ∧ (0 ≤ x.since ∧ x.since ≤ 1000000) ∧ ∀ n, (Instr.lookup 58 (.map (some ml)) (.int .i64 k) false).run Try.prog (w.drewN n) = .ok (.agg (nwCells x).toArray) (w.drewN n) := by
    intro k hk
    refine ⟨(look lo k).getD zeroNw, ?_, ?_, ?_, fun n => ?_⟩
    · unfold sinceOf; cases look lo k <;> rfl
    · cases hl : look lo k with
      | none => exact full_zero.1
      | some x => exact (hf _ (look_mem hl)).1
    · cases hl : look lo k with
      | none => exact ⟨Int.le_refl _, by decide⟩
      | some x => exact hy _ (look_mem hl)
    · have hm' : MapIs (w.drewN n) ml nl (fun k => (look lo k).map nwV) := hm.of_block rfl
      rw [hm'.look hk Try.underlying58 (zero67 _)]
      cases look lo k <;> rfl
  obtain ⟨x, hx, fx, sx, lx⟩ := key a ha
  obtain ⟨y, hy', fy, sy, ly⟩ := key b hb
  have cx := run_field_since x fx
  have cy := run_field_since y fy
  rw [← hx, ← hy']
  have wr : IntKind.i64.wrap (x.since - y.since) = x.since - y.since := by rw [IntKind.wrap_i64]; omega
  clear key hm hf hy hx hy' sx sy
  go_enter Try.func47, Try.ntmps47
  go_wp2
  go_quiet (fail)
  go_wp2
  go_ret
  exact ⟨rfl, _, rfl⟩
end Go.Proofs.Ytedcpmkfanlicaa
