/- Flush by its contract. -/
import Derived.Test.YtedcpmkfanlicaaDvCount
set_option linter.unusedVariables false
set_option linter.unusedSimpArgs false
namespace Go.Proofs.Ytedcpmkfanlicaa
open Go Go.RowKit Go.Sort Go.Lib Go.Maps
def resF : Nat → Blk → Blk → Blk := fun _ _ x => x
section
variable {w : World} {p mf ml nf nl : Nat} {d d1 : Dv} {G : Int → Option Blk} {lo : List (Int × Nw)}
set_option maxHeartbeats 400000 in
theorem flush_down (H : DevAt w p d mf ml nf nl G lo) (hd : d.down = true) : Calls Try.prog 19 #[.pointer (some ⟨p, 0, none⟩)] w fun e w' => e = .returned (.int .i64 11) ∧ w' = w := by
  have c : w.cell? ⟨p, 3, none⟩ = some (.bool d.down) := (H.cell (j := 3) rfl).1
  rw [hd] at c
  clear H hd
  go_enter Try.func19, Try.ntmps19
  go_wp2
  go_ret
  exact ⟨rfl, rfl⟩
set_option maxHeartbeats 1000000 in
theorem flush_false (H : DevAt w p d mf ml nf nl G lo) (hd : d.down = false) {Q : World → Prop} (CT : Calls Try.prog 32 #[.pointer (some ⟨p, 0, none⟩)] w fun e w' => e = .returned (.bool false) ∧ Q w') :
    Calls Try.prog 19 #[.pointer (some ⟨p, 0, none⟩)] w fun e w' => e = .returned (.int .i64 11) ∧ Q w' := by
  have c : w.cell? ⟨p, 3, none⟩ = some (.bool d.down) := (H.cell (j := 3) rfl).1
  rw [hd] at c
  have CT := Lib.hid CT
  clear H hd
  go_enter Try.func19, Try.ntmps19
  go_wp2_with fail
  refine CT.out.mono ?_
  rintro e w1 ⟨rfl, q⟩
  go_wp2
  go_ret
  exact ⟨rfl, q⟩
set_option maxHeartbeats 1000000 in
theorem flush_true (H : DevAt w p d mf ml nf nl G lo) (hd : d.down = false) (hcl : d1.clock ≤ 1000000) (hnl : nl ≤ 1000000) (hnf : nf + lo.length ≤ 1000000)
    (CT : Calls Try.prog 32 #[.pointer (some ⟨p, 0, none⟩)] w fun e w' => e = .returned (.bool true) ∧ DevAt w' p d1 mf ml nf nl G lo ∧ Chg (fun i => i = p) w w') :
    Calls Try.prog 19 #[.pointer (some ⟨p, 0, none⟩)] w fun e w' => e = .returned (.int .i64 0) ∧ DevAt w' p d1 mf ml (nf + lo.length) nl (settleG resF 0 G lo) [] ∧ Chg (fun i => i = p ∨ i = mf ∨ i = ml) w w' := by
  have c : w.cell? ⟨p, 3, none⟩ = some (.bool d.down) := (H.cell (j := 3) rfl).1
  rw [hd] at c
  have CT := Lib.hid CT
  clear H hd
  go_enter Try.func19, Try.ntmps19
  go_wp2_with fail
  refine CT.out.mono ?_
  rintro e w1 ⟨rfl, D1, X1⟩
  have se := Lib.hid (settle_any D1 hcl hnl hnf 38 #[] resF flush1_enters (flush1_any w1 mf ml lo.length))
  have X1 := Lib.hid X1
  clear CT D1
  go_wp2_with fail
  refine se.out.mono ?_
  rintro e w2 ⟨rfl, D2, X2⟩
  go_wp2
  go_ret
  exact ⟨rfl, D2, X1.out.mono (fun _ _ h => .inl h) |>.trans X2 (fun _ _ h => .inr h)⟩
end
end Go.Proofs.Ytedcpmkfanlicaa
