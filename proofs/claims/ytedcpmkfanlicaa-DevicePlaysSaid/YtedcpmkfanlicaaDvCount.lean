/- counts by its contract. -/
import Derived.Test.YtedcpmkfanlicaaDvCrash
import Derived.Deep.RegionHeld3
set_option linter.unusedVariables false
set_option linter.unusedSimpArgs false
namespace Go.Proofs.Ytedcpmkfanlicaa
open Go Go.RowKit Go.Sort Go.Lib Go.Maps
section
variable {w : World} {p mf ml nf nl : Nat} {d : Dv} {G : Int → Option Blk} {lo : List (Int × Nw)}
theorem wrap_in (n k : Int) (h1 : -9223372036854775808 ≤ n) (h2 : n ≤ 9223372036854775807) (e : n = k) : IntKind.i64.wrap n = k := by
  subst e; rw [IntKind.wrap_i64]; omega
set_option maxHeartbeats 400000 in
theorem counts_down (H : DevAt w p d mf ml nf nl G lo) (hd : d.down = true) : Calls Try.prog 32 #[.pointer (some ⟨p, 0, none⟩)] w fun e w' => e = .returned (.bool true) ∧ w' = w := by
  have c : w.cell? ⟨p, 3, none⟩ = some (.bool d.down) := (H.cell (j := 3) rfl).1
  rw [hd] at c
  clear H hd
  go_enter Try.func32, Try.ntmps32
  go_wp2
  go_ret
  exact ⟨rfl, rfl⟩
/-- one call more -/
theorem DevAt.called (H : DevAt w p d mf ml nf nl G lo) : DevAt (w.setCell ⟨p, 5, none⟩ (.int .i64 (d.calls + 1))) p { d with calls := d.calls + 1 } mf ml nf nl G lo ∧ Chg (fun i => i = p) w (w.setCell ⟨p, 5, none⟩ (.int .i64 (d.calls + 1))) := by
  have X : Chg (fun i => i = p) w (w.setCell ⟨p, 5, none⟩ (.int .i64 (d.calls + 1))) := chg_setCell w ⟨p, 5, none⟩ _
  exact ⟨H.fields X (heap_setCell_same _ p 5 _ 62 _ H.blk) (Int.le_refl _), X⟩
theorem DevAt.disarmed (H : DevAt w p d mf ml nf nl G lo) : DevAt (w.setCell ⟨p, 6, none⟩ (.int .i64 (d.armed - 1))) p { d with armed := d.armed - 1 } mf ml nf nl G lo ∧ Chg (fun i => i = p) w (w.setCell ⟨p, 6, none⟩ (.int .i64 (d.armed - 1))) := by
  have X : Chg (fun i => i = p) w (w.setCell ⟨p, 6, none⟩ (.int .i64 (d.armed - 1))) := chg_setCell w ⟨p, 6, none⟩ _
  exact ⟨H.fields X (heap_setCell_same _ p 6 _ 62 _ H.blk) (Int.le_refl _), X⟩
set_option maxHeartbeats 1000000 in
theorem counts_plain (H : DevAt w p d mf ml nf nl G lo) (hd : d.down = false) (ha : d.armed ≤ 0) (hc : 0 ≤ d.calls ∧ d.calls ≤ 1000000) : Calls Try.prog 32 #[.pointer (some ⟨p, 0, none⟩)] w fun e w' => e = .returned (.bool true) ∧ DevAt w' p { d with calls := d.calls + 1 } mf ml nf nl G lo ∧ Chg (fun i => i = p) w w' := by
  have c3 : w.cell? ⟨p, 3, none⟩ = some (.bool d.down) := (H.cell (j := 3) rfl).1
  rw [hd] at c3
  have c5 : w.cell? ⟨p, 5, none⟩ = some (.int .i64 d.calls) := (H.cell (j := 5) rfl).1
  have f5 : w.frozen? ⟨p, 5, none⟩ = false := (H.cell (j := 5) rfl).2
  have c6 : w.cell? ⟨p, 6, none⟩ = some (.int .i64 d.armed) := (H.cell (j := 6) rfl).1
  have w5 : IntKind.i64.wrap (d.calls + 1) = d.calls + 1 := wrap_in _ _ (by omega) (by omega) rfl
  obtain ⟨H1, X1⟩ := H.called
  have H1 := Lib.hid H1
  have X1 := Lib.hid X1
  clear H hd
  go_enter Try.func32, Try.ntmps32
  go_wp2
  go_ret
  exact ⟨rfl, H1.out, X1.out⟩
set_option maxHeartbeats 1000000 in
theorem counts_armed (H : DevAt w p d mf ml nf nl G lo) (hd : d.down = false) (ha : 1 < d.armed) (ham : d.armed ≤ 9223372036854775807) (hc : 0 ≤ d.calls ∧ d.calls ≤ 1000000) : Calls Try.prog 32 #[.pointer (some ⟨p, 0, none⟩)] w fun e w' => e = .returned (.bool true) ∧ DevAt w' p { d with calls := d.calls + 1, armed := d.armed - 1 } mf ml nf nl G lo ∧ Chg (fun i => i = p) w w' := by
  have c3 : w.cell? ⟨p, 3, none⟩ = some (.bool d.down) := (H.cell (j := 3) rfl).1
  rw [hd] at c3
  have c5 : w.cell? ⟨p, 5, none⟩ = some (.int .i64 d.calls) := (H.cell (j := 5) rfl).1
  have f5 : w.frozen? ⟨p, 5, none⟩ = false := (H.cell (j := 5) rfl).2
  have c6 : w.cell? ⟨p, 6, none⟩ = some (.int .i64 d.armed) := (H.cell (j := 6) rfl).1
  have f6 : w.frozen? ⟨p, 6, none⟩ = false := (H.cell (j := 6) rfl).2
  have w5 : IntKind.i64.wrap (d.calls + 1) = d.calls + 1 := wrap_in _ _ (by omega) (by omega) rfl
  have w6 : IntKind.i64.wrap (d.armed - 1) = d.armed - 1 := wrap_in _ _ (by omega) (by omega) rfl
  have z6 : (d.armed - 1 == 0) = false := by rw [beq_eq_false_iff_ne]; omega
  have z7 : 0 < d.armed := by omega
  obtain ⟨H1, X1⟩ := H.called
  obtain ⟨H2, X2⟩ := H1.disarmed
  have H2 := Lib.hid H2
  have X2 := Lib.hid (X1.trans X2 (fun _ _ h => h))
  clear H hd H1 X1
  go_enter Try.func32, Try.ntmps32
  go_wp2
  go_ret
  exact ⟨rfl, H2.out, X2.out⟩
set_option maxHeartbeats 2000000 in
theorem counts_falls (H : DevAt w p d mf ml nf nl G lo) (hd : d.down = false) (ha : d.armed = 1) (hc : 0 ≤ d.calls ∧ d.calls ≤ 1000000) (hcl : d.clock ≤ 1000000) (hnl : nl ≤ 1000000) (hnf : nf + lo.length ≤ 1000000) (hm : u64 d.mask) :
    Calls Try.prog 32 #[.pointer (some ⟨p, 0, none⟩)] w fun e w' => e = .returned (.bool false) ∧ DevAt w' p { d with calls := d.calls + 1, down := true, armed := 0 } mf ml (nf + lo.length) nl (settleG (resC d.mask d.torn (toBytes d.bytes)) 0 G lo) [] ∧ Chg (fun i => i = p ∨ i = mf ∨ i = ml) w w' := by
  have mixed := Try.mixed
  have c3 : w.cell? ⟨p, 3, none⟩ = some (.bool d.down) := (H.cell (j := 3) rfl).1
  rw [hd] at c3
  have c5 : w.cell? ⟨p, 5, none⟩ = some (.int .i64 d.calls) := (H.cell (j := 5) rfl).1
  have f5 : w.frozen? ⟨p, 5, none⟩ = false := (H.cell (j := 5) rfl).2
  have c6 : w.cell? ⟨p, 6, none⟩ = some (.int .i64 d.armed) := (H.cell (j := 6) rfl).1
  have f6 : w.frozen? ⟨p, 6, none⟩ = false := (H.cell (j := 6) rfl).2
  have w5 : IntKind.i64.wrap (d.calls + 1) = d.calls + 1 := wrap_in _ _ (by omega) (by omega) rfl
  obtain ⟨H1, X1⟩ := H.called
  obtain ⟨H2, X2⟩ := H1.disarmed
  simp only [ha] at H2 X2 c6
  have H2 := Lib.hid H2
  have X2 := Lib.hid (X1.trans X2 (fun _ _ h => h))
  obtain ⟨w1, hw1⟩ : ∃ w1, w1 = (w.setCell ⟨p, 5, none⟩ (.int .i64 (d.calls + 1))).setCell ⟨p, 6, none⟩ (.int .i64 (1 - 1)) := ⟨_, rfl⟩
  rw [← hw1] at H2 X2
  have HW1 := Lib.hid hw1
  have CR := crash_up (H2.out.ext (Ext.refl w1).drew) hd hcl hnl hnf d.mask d.torn d.bytes hm
  have CR := Lib.hid CR
  have m7 : w1.drew.cell? ⟨p, 7, none⟩ = some (.int .u64 d.mask) := (H2.out.cell (j := 7) rfl).1
  have m8 : w1.drew.cell? ⟨p, 8, none⟩ = some (.int .i64 d.torn) := (H2.out.cell (j := 8) rfl).1
  have m9 : w1.drew.cell? ⟨p, 9, none⟩ = some (.int .i64 d.bytes) := (H2.out.cell (j := 9) rfl).1
  have M := Lib.hid (And.intro m7 (And.intro m8 m9))
  clear H hd H1 X1 hw1 ha m7 m8 m9
  go_enter Try.func32, Try.ntmps32
  go_upto_region 7 with fail
  rw [show (w.setCell ⟨p, 5, none⟩ (.int .i64 (d.calls + 1))).setCell ⟨p, 6, none⟩ (.int .i64 0) = w1 from HW1.out.symm]
  refine wp_region_held_drew (S := fun W => W.cell? ⟨p, 7, none⟩ = some (.int .u64 d.mask) ∧ W.cell? ⟨p, 8, none⟩ = some (.int .i64 d.torn) ∧ W.cell? ⟨p, 9, none⟩ = some (.int .i64 d.bytes)) (by kernel_rfl) M.out (fun hHeld => ?_)
  refine wpAnyH_take (i := 0) (oi := _) (v := ?vk0) rfl (by kernel_rfl) (by kernel_rfl) (by kernel_rfl) (fun _ _ _ h => h) (Or.inl ⟨by rfl, ?yk0⟩) (by assumption) ?rk0
  case yk0 => (intro w hSw; obtain ⟨hS1, hS2, hS3⟩ := hSw; go_simp; try with_reducible rfl)
  (try simp only [List.getElem_toArray, List.getElem_cons_succ, List.getElem_cons_zero, Act.put, List.setIfInBounds_toArray, List.set_cons_zero, List.set_cons_succ])
  refine wpAnyH_take (i := 1) (oi := _) (v := ?vk1) rfl (by kernel_rfl) (by kernel_rfl) (by kernel_rfl) (fun _ _ _ h => h) (Or.inl ⟨by rfl, ?yk1⟩) (by assumption) ?rk1
  case yk1 => (intro w hSw; obtain ⟨hS1, hS2, hS3⟩ := hSw; go_simp; try with_reducible rfl)
  (try simp only [List.getElem_toArray, List.getElem_cons_succ, List.getElem_cons_zero, Act.put, List.setIfInBounds_toArray, List.set_cons_zero, List.set_cons_succ])
  refine wpAnyH_take (i := 2) (oi := _) (v := ?vk2) rfl (by kernel_rfl) (by kernel_rfl) (by kernel_rfl) (fun _ _ _ h => h) (Or.inl ⟨by rfl, ?yk2⟩) (by assumption) ?rk2
  case yk2 => (intro w hSw; obtain ⟨hS1, hS2, hS3⟩ := hSw; go_simp; try with_reducible rfl)
  (try simp only [List.getElem_toArray, List.getElem_cons_succ, List.getElem_cons_zero, Act.put, List.setIfInBounds_toArray, List.set_cons_zero, List.set_cons_succ])
  refine wpAnyH_take (i := 3) (oi := _) (v := ?vk3) rfl (by kernel_rfl) (by kernel_rfl) (by kernel_rfl) (fun _ _ _ h => h) (Or.inl ⟨by rfl, ?yk3⟩) (by assumption) ?rk3
  case yk3 => (intro w hSw; obtain ⟨hS1, hS2, hS3⟩ := hSw; go_simp; try with_reducible rfl)
  (try simp only [List.getElem_toArray, List.getElem_cons_succ, List.getElem_cons_zero, Act.put, List.setIfInBounds_toArray, List.set_cons_zero, List.set_cons_succ])
  refine wpAnyH_take (i := 4) (oi := _) (v := ?vk4) rfl (by kernel_rfl) (by kernel_rfl) (by kernel_rfl) (fun _ _ _ h => h) (Or.inl ⟨by rfl, ?yk4⟩) (by assumption) ?rk4
  case yk4 => (intro w hSw; obtain ⟨hS1, hS2, hS3⟩ := hSw; go_simp; try with_reducible rfl)
  (try simp only [List.getElem_toArray, List.getElem_cons_succ, List.getElem_cons_zero, Act.put, List.setIfInBounds_toArray, List.set_cons_zero, List.set_cons_succ])
  refine wpAnyH_take (i := 5) (oi := _) (v := ?vk5) rfl (by kernel_rfl) (by kernel_rfl) (by kernel_rfl) (fun _ _ _ h => h) (Or.inl ⟨by rfl, ?yk5⟩) (by assumption) ?rk5
  case yk5 => (intro w hSw; obtain ⟨hS1, hS2, hS3⟩ := hSw; go_simp; try with_reducible rfl)
  (try simp only [List.getElem_toArray, List.getElem_cons_succ, List.getElem_cons_zero, Act.put, List.setIfInBounds_toArray, List.set_cons_zero, List.set_cons_succ])
  refine wpAnyH_take (i := 6) (oi := _) (v := ?vk6) rfl (by kernel_rfl) (by kernel_rfl) (by kernel_rfl) (fun _ _ _ h => h) (Or.inl ⟨by rfl, ?yk6⟩) (by assumption) ?rk6
  case yk6 => (intro w hSw; obtain ⟨hS1, hS2, hS3⟩ := hSw; go_simp; try with_reducible rfl)
  (try simp only [List.getElem_toArray, List.getElem_cons_succ, List.getElem_cons_zero, Act.put, List.setIfInBounds_toArray, List.set_cons_zero, List.set_cons_succ])
  refine wpAnyH_take (i := 7) (oi := _) (v := ?vk7) rfl (by kernel_rfl) (by kernel_rfl) (by kernel_rfl) (fun _ _ _ h => h) (Or.inl ⟨by rfl, ?yk7⟩) (by assumption) ?rk7
  case yk7 => (intro w hSw; obtain ⟨hS1, hS2, hS3⟩ := hSw; go_simp; try with_reducible rfl)
  (try simp only [List.getElem_toArray, List.getElem_cons_succ, List.getElem_cons_zero, Act.put, List.setIfInBounds_toArray, List.set_cons_zero, List.set_cons_succ])
  refine wpAnyH_take (i := 8) (oi := _) (v := ?vk8) rfl (by kernel_rfl) (by kernel_rfl) (by kernel_rfl) (fun _ _ _ h => h) (Or.inl ⟨by rfl, ?yk8⟩) (by assumption) ?rk8
  case yk8 => (intro w hSw; obtain ⟨hS1, hS2, hS3⟩ := hSw; go_simp; try with_reducible rfl)
  (try simp only [List.getElem_toArray, List.getElem_cons_succ, List.getElem_cons_zero, Act.put, List.setIfInBounds_toArray, List.set_cons_zero, List.set_cons_succ])
  refine wpAnyH_take (i := 9) (oi := _) (v := ?vk9) rfl (by kernel_rfl) (by kernel_rfl) (by kernel_rfl) (fun _ _ _ h => h) (Or.inl ⟨by rfl, ?yk9⟩) (by assumption) ?rk9
  case yk9 => (intro w hSw; obtain ⟨hS1, hS2, hS3⟩ := hSw; go_simp; try with_reducible rfl)
  (try simp only [List.getElem_toArray, List.getElem_cons_succ, List.getElem_cons_zero, Act.put, List.setIfInBounds_toArray, List.set_cons_zero, List.set_cons_succ])
  refine wpAnyH_take (i := 10) (oi := _) (v := ?vk10) rfl (by kernel_rfl) (by kernel_rfl) (by kernel_rfl) (fun _ _ _ h => h) (Or.inl ⟨by rfl, ?yk10⟩) (by assumption) ?rk10
  case yk10 => (intro w hSw; obtain ⟨hS1, hS2, hS3⟩ := hSw; go_simp; try with_reducible rfl)
  (try simp only [List.getElem_toArray, List.getElem_cons_succ, List.getElem_cons_zero, Act.put, List.setIfInBounds_toArray, List.set_cons_zero, List.set_cons_succ])
  refine wpAnyH_take (i := 11) (oi := _) (v := ?vk11) rfl (by kernel_rfl) (by kernel_rfl) (by kernel_rfl) (fun _ _ _ h => h) (Or.inl ⟨by rfl, ?yk11⟩) (by assumption) ?rk11
  case yk11 => (intro w hSw; obtain ⟨hS1, hS2, hS3⟩ := hSw; go_simp; try with_reducible rfl)
  (try simp only [List.getElem_toArray, List.getElem_cons_succ, List.getElem_cons_zero, Act.put, List.setIfInBounds_toArray, List.set_cons_zero, List.set_cons_succ])
  refine wpAnyH_take (i := 12) (oi := _) (v := ?vk12) rfl (by kernel_rfl) (by kernel_rfl) (by kernel_rfl) (fun _ _ _ h => h) (Or.inl ⟨by rfl, ?yk12⟩) (by assumption) ?rk12
  case yk12 => (intro w hSw; obtain ⟨hS1, hS2, hS3⟩ := hSw; go_simp; try with_reducible rfl)
  (try simp only [List.getElem_toArray, List.getElem_cons_succ, List.getElem_cons_zero, Act.put, List.setIfInBounds_toArray, List.set_cons_zero, List.set_cons_succ])
  refine wpAnyH_take (i := 13) (oi := _) (v := ?vk13) rfl (by kernel_rfl) (by kernel_rfl) (by kernel_rfl) (fun _ _ _ h => h) (Or.inl ⟨by rfl, ?yk13⟩) (by assumption) ?rk13
  case yk13 => (intro w hSw; obtain ⟨hS1, hS2, hS3⟩ := hSw; go_simp; try with_reducible rfl)
  (try simp only [List.getElem_toArray, List.getElem_cons_succ, List.getElem_cons_zero, Act.put, List.setIfInBounds_toArray, List.set_cons_zero, List.set_cons_succ])
  refine wpAnyH_take (i := 14) (oi := _) (v := ?vk14) rfl (by kernel_rfl) (by kernel_rfl) (by kernel_rfl) (fun _ _ _ h => h) (Or.inl ⟨by rfl, ?yk14⟩) (by assumption) ?rk14
  case yk14 => (intro w hSw; obtain ⟨hS1, hS2, hS3⟩ := hSw; go_simp; try with_reducible rfl)
  (try simp only [List.getElem_toArray, List.getElem_cons_succ, List.getElem_cons_zero, Act.put, List.setIfInBounds_toArray, List.set_cons_zero, List.set_cons_succ])
  refine wpAnyH_take (i := 15) (oi := _) (v := ?vk15) rfl (by kernel_rfl) (by kernel_rfl) (by kernel_rfl) (fun _ _ _ h => h) (Or.inl ⟨by rfl, ?yk15⟩) (by assumption) ?rk15
  case yk15 => (intro w hSw; obtain ⟨hS1, hS2, hS3⟩ := hSw; go_simp; try with_reducible rfl)
  (try simp only [List.getElem_toArray, List.getElem_cons_succ, List.getElem_cons_zero, Act.put, List.setIfInBounds_toArray, List.set_cons_zero, List.set_cons_succ])
  refine wpAnyH_ready (rs := [16]) (by kernel_rfl) (by simp) ?_
  refine AllReadyH.cons (o := _) rfl (fun K hK => ?_) AllReadyH.nil
  (try simp only [List.getElem_toArray, List.getElem_cons_succ, List.getElem_cons_zero])
  go_simp
  refine CR.out.mono ?_
  clear CR
  rintro e w2 ⟨rfl, D2, X2_1⟩
  refine hK.out _ _ ?_ (fun hHeld => ?_)
  · exact ⟨(D2.cell (j := 7) rfl).1, (D2.cell (j := 8) rfl).1, (D2.cell (j := 9) rfl).1⟩
  clear hK K
  (try simp only [List.getElem_toArray, List.getElem_cons_succ, List.getElem_cons_zero, Act.put, List.setIfInBounds_toArray, List.set_cons_zero, List.set_cons_succ])
  refine wpAnyH_done (by kernel_rfl) ?_ _
  go_wp2
  go_ret
  have X3 : Chg (fun i => i = p ∨ i = mf ∨ i = ml) w w1.drew := (X2.out.mono (fun _ _ h => .inl h)).drew
  exact ⟨rfl, D2, X3.trans X2_1 (fun _ _ h => h)⟩
end
end Go.Proofs.Ytedcpmkfanlicaa
