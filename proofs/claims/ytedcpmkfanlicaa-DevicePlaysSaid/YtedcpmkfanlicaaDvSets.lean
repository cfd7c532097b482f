/- Start and Arm by their contracts. -/
import Derived.Test.YtedcpmkfanlicaaDvSmall
set_option linter.unusedVariables false
set_option linter.unusedSimpArgs false
namespace Go.Proofs.Ytedcpmkfanlicaa
open Go Go.RowKit Go.Sort Go.Lib Go.Maps
section
variable {w : World} {p mf ml nf nl : Nat} {d : Dv} {G : Int → Option Blk} {lo : List (Int × Nw)}
set_option maxHeartbeats 400000 in
theorem start_any (h : DevAt w p d mf ml nf nl G lo) : Calls Try.prog 14 #[.pointer (some ⟨p, 0, none⟩)] w fun e w' => e = .returned (.tuple #[]) ∧ DevAt w' p { d with down := false } mf ml nf nl G lo ∧ Chg (fun i => i = p) w w' := by
  have c : w.cell? ⟨p, 3, none⟩ = some (.bool d.down) := (h.cell (j := 3) rfl).1
  have f : w.frozen? ⟨p, 3, none⟩ = false := (h.cell (j := 3) rfl).2
  have H := Lib.hid h
  clear h
  go_enter Try.func14, Try.ntmps14
  go_wp2
  go_end0
  have X : Chg (fun i => i = p) w (w.setCell ⟨p, 3, none⟩ (.bool false)) := chg_setCell w ⟨p, 3, none⟩ _
  exact ⟨rfl, H.out.fields X (heap_setCell_same _ p 3 _ 62 _ H.out.blk) (Int.le_refl _), X⟩
set_option maxHeartbeats 400000 in
theorem arm_any (h : DevAt w p d mf ml nf nl G lo) (n mask torn bytes : Int) : Calls Try.prog 18 #[.pointer (some ⟨p, 0, none⟩), .int .i64 n, .int .u64 mask, .int .i64 torn, .int .i64 bytes] w fun e w' => e = .returned (.tuple #[]) ∧ DevAt w' p { d with armed := max n 0, mask := mask, torn := torn, bytes := bytes } mf ml nf nl G lo ∧ Chg (fun i => i = p) w w' := by
  have c : w.cell? ⟨p, 6, none⟩ = some (.int .i64 d.armed) := (h.cell (j := 6) rfl).1
  have f : w.frozen? ⟨p, 6, none⟩ = false := (h.cell (j := 6) rfl).2
  have c7 : w.cell? ⟨p, 7, none⟩ = some (.int .u64 d.mask) := (h.cell (j := 7) rfl).1
  have f7 : w.frozen? ⟨p, 7, none⟩ = false := (h.cell (j := 7) rfl).2
  have c8 : w.cell? ⟨p, 8, none⟩ = some (.int .i64 d.torn) := (h.cell (j := 8) rfl).1
  have f8 : w.frozen? ⟨p, 8, none⟩ = false := (h.cell (j := 8) rfl).2
  have c9 : w.cell? ⟨p, 9, none⟩ = some (.int .i64 d.bytes) := (h.cell (j := 9) rfl).1
  have f9 : w.frozen? ⟨p, 9, none⟩ = false := (h.cell (j := 9) rfl).2
  have H := Lib.hid h
  clear h
  go_enter Try.func18, Try.ntmps18
  go_wp2
  go_end0
  have X1 : Chg (fun i => i = p) w (w.setCell ⟨p, 6, none⟩ (.int .i64 (max n 0))) := chg_setCell w ⟨p, 6, none⟩ _
  have X2 := X1.trans (chg_setCell _ ⟨p, 7, none⟩ (.int .u64 mask)) (fun i _ h => h)
  have X3 := X2.trans (chg_setCell _ ⟨p, 8, none⟩ (.int .i64 torn)) (fun i _ h => h)
  have X4 := X3.trans (chg_setCell _ ⟨p, 9, none⟩ (.int .i64 bytes)) (fun i _ h => h)
  exact ⟨rfl, H.out.fields X4 (heap_setCell_same _ p 9 _ 62 _ (heap_setCell_same _ p 8 _ 62 _ (heap_setCell_same _ p 7 _ 62 _ (heap_setCell_same _ p 6 _ 62 _ H.out.blk)))) (Int.le_refl _), X4⟩
end
end Go.Proofs.Ytedcpmkfanlicaa
