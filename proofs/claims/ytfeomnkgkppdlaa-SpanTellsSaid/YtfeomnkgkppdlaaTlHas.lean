/- The reference's In, Has and Any, by their contracts. -/
import Derived.Test.YtfeomnkgkppdlaaTlFun
import Derived.Test.YtfeomnkgkppdlaaSpAny
set_option linter.unusedVariables false
set_option linter.unusedSimpArgs false
namespace Go.Proofs.Ytfeomnkgkppdlaa
open Go Go.RowKit Go.Sort Go.Lib Go.Deep
attribute [local go_sem ↓] run_size24 run_size49 run_size25
attribute [local simp high] run_size24x run_size49x run_size25x
set_option maxHeartbeats 2000000 in
set_option maxRecDepth 100000 in
theorem inR_any (s : Sp) (k : Key) (w : World) : Calls Try.prog 43 #[spanV s, keyV k] w fun e w' => e = .returned (.bool (hasS k s)) ∧ Chg (fun _ => False) w w' := by
  have mixed := Try.mixed
  have k1 : ¬ K24 = 0 := by decide
  have k2 : ¬ K49 = 0 := by decide
  obtain ⟨C1, C2⟩ := two_new w (spanCells s) (keyCells k) 28 26
  obtain ⟨w2, h2⟩ : ∃ W, W = (w.alloc (.cells (spanCells s).toArray 28)).alloc (.cells (keyCells k).toArray 26) := ⟨_, rfl⟩
  rw [← h2] at C1 C2
  have T1 := spanTo C1
  rw [Nat.zero_add] at T1
  have en := spanEn C1
  rw [Nat.zero_add] at en
  have E0 : Hid (Chg (fun _ => False) w w2) := by show Chg _ _ _; rw [h2]; exact (((Ext.refl w).alloc _).alloc _).chg _
  have v1 : ∀ W, Chg (fun _ => False) w2 W → (convert 50 9 (.slice (some ⟨w.heap.size + 1, 0, none⟩) 24 24)).run Try.prog W = .ok (.string (strK k)) W := fun W X => conv_key k W _ 0 24 (X.cells C2 id)
  have v2 : ∀ W, Chg (fun _ => False) w2 W → (convert 50 9 (.slice (some ⟨w.heap.size, 0, none⟩) 24 24)).run Try.prog W = .ok (.string (strK s.fr)) W := fun W X => conv_key s.fr W _ 0 24 (X.cells (spanFr C1) id)
  have v3 : ∀ W, Chg (fun _ => False) w2 W → (convert 50 9 (.slice (some ⟨w.heap.size, 24, none⟩) 24 24)).run Try.prog W = .ok (.string (strK s.to)) W := fun W X => conv_key s.to W _ 24 24 (X.cells T1 id)
  have r3 : ∀ W, Chg (fun _ => False) w2 W → W.cell? ⟨w.heap.size, 48, none⟩ = some (.bool s.en) := fun W X => X.cell en id
  have l1 := strK_less k s.fr
  have l2 := strK_less k s.to
  have R : Hid (hasS k s = (!ltK k s.fr && (s.en || ltK k s.to))) := by
    show _ = _
    have e : decide (0 ≤ cmpK k s.fr) = !ltK k s.fr := by unfold ltK; by_cases h : cmpK k s.fr < 0 <;> simp [h] <;> omega
    unfold hasS
    rw [e]
    rfl
  have KD : Hid (Chg (fun _ => False) w2 w2.drew) := (Ext.refl w2).drew.chg _
  clear C1 C2 T1 en
  unfold spanV keyV
  generalize s.en = en0 at *
  generalize ltK k s.fr = b1 at *
  generalize ltK k s.to = b2 at *
  generalize hasS k s = r at *
  have h2' := h2.symm
  clear h2
  go_enter Try.func43, Try.ntmps43
  go_upto_region 1 with fail
  try rw [h2']
  clear h2'
  cases b1 with
  | true =>
    refine wp_region_held_drew (S := fun W => Chg (fun _ => False) w2 W) (by kernel_rfl) KD.out (fun hHeld => ?_)
    refine wpAnyH_take (i := 0) (oi := _) (v := ?via0) rfl (by kernel_rfl) (by kernel_rfl) (by kernel_rfl) (fun _ _ _ h => h) (Or.inl ⟨by rfl, ?yia0⟩) (by assumption) ?ria0
    case yia0 => (intro w hSw; go_simp; try with_reducible rfl)
    (try simp only [List.getElem_toArray, List.getElem_cons_succ, List.getElem_cons_zero, Act.put, List.setIfInBounds_toArray, List.set_cons_zero, List.set_cons_succ])
    refine wpAnyH_take (i := 1) (oi := _) (v := ?via1) rfl (by kernel_rfl) (by kernel_rfl) (by kernel_rfl) (fun _ _ _ h => h) (Or.inl ⟨by rfl, ?yia1⟩) (by assumption) ?ria1
    case yia1 => (intro w hSw; go_simp; try with_reducible rfl)
    (try simp only [List.getElem_toArray, List.getElem_cons_succ, List.getElem_cons_zero, Act.put, List.setIfInBounds_toArray, List.set_cons_zero, List.set_cons_succ])
    refine wpAnyH_take (i := 2) (oi := _) (v := ?via2) rfl (by kernel_rfl) (by kernel_rfl) (by kernel_rfl) (fun _ _ _ h => h) (Or.inl ⟨by rfl, ?yia2⟩) (by assumption) ?ria2
    case yia2 => (intro w hSw; go_simp; try with_reducible rfl)
    (try simp only [List.getElem_toArray, List.getElem_cons_succ, List.getElem_cons_zero, Act.put, List.setIfInBounds_toArray, List.set_cons_zero, List.set_cons_succ])
    refine wpAnyH_take (i := 3) (oi := _) (v := ?via3) rfl (by kernel_rfl) (by kernel_rfl) (by kernel_rfl) (fun _ _ _ h => h) (Or.inl ⟨by rfl, ?yia3⟩) (by assumption) ?ria3
    case yia3 => (intro w hSw; go_simp; try with_reducible rfl)
    (try simp only [List.getElem_toArray, List.getElem_cons_succ, List.getElem_cons_zero, Act.put, List.setIfInBounds_toArray, List.set_cons_zero, List.set_cons_succ])
    refine wpAnyH_take (i := 4) (oi := _) (v := ?via4) rfl (by kernel_rfl) (by kernel_rfl) (by kernel_rfl) (fun _ _ _ h => h) (Or.inl ⟨by rfl, ?yia4⟩) (by assumption) ?ria4
    case yia4 => (intro w hSw; go_simp; try with_reducible rfl)
    (try simp only [List.getElem_toArray, List.getElem_cons_succ, List.getElem_cons_zero, Act.put, List.setIfInBounds_toArray, List.set_cons_zero, List.set_cons_succ])
    refine wpAnyH_take (i := 5) (oi := _) (v := ?via5) rfl (by kernel_rfl) (by kernel_rfl) (by kernel_rfl) (fun _ _ _ h => h) (Or.inl ⟨by rfl, ?yia5⟩) (by assumption) ?ria5
    case yia5 => (intro w hSw; go_simp; try with_reducible rfl)
    (try simp only [List.getElem_toArray, List.getElem_cons_succ, List.getElem_cons_zero, Act.put, List.setIfInBounds_toArray, List.set_cons_zero, List.set_cons_succ])
    refine wpAnyH_take (i := 6) (oi := _) (v := ?via6) rfl (by kernel_rfl) (by kernel_rfl) (by kernel_rfl) (fun _ _ _ h => h) (Or.inl ⟨by rfl, ?yia6⟩) (by assumption) ?ria6
    case yia6 => (intro w hSw; go_simp; try with_reducible rfl)
    (try simp only [List.getElem_toArray, List.getElem_cons_succ, List.getElem_cons_zero, Act.put, List.setIfInBounds_toArray, List.set_cons_zero, List.set_cons_succ])
    refine wpAnyH_take (i := 7) (oi := _) (v := undef) rfl (by kernel_rfl) (by kernel_rfl) (by kernel_rfl) (fun _ _ _ h => h) (Or.inr ⟨by rfl, rfl⟩) (by assumption) ?ria7
    (try simp only [List.getElem_toArray, List.getElem_cons_succ, List.getElem_cons_zero, Act.put, List.setIfInBounds_toArray, List.set_cons_zero, List.set_cons_succ])
    refine wpAnyH_take (i := 8) (oi := _) (v := undef) rfl (by kernel_rfl) (by kernel_rfl) (by kernel_rfl) (fun _ _ _ h => h) (Or.inr ⟨by rfl, rfl⟩) (by assumption) ?ria8
    (try simp only [List.getElem_toArray, List.getElem_cons_succ, List.getElem_cons_zero, Act.put, List.setIfInBounds_toArray, List.set_cons_zero, List.set_cons_succ])
    refine wpAnyH_take (i := 9) (oi := _) (v := undef) rfl (by kernel_rfl) (by kernel_rfl) (by kernel_rfl) (fun _ _ _ h => h) (Or.inr ⟨by rfl, rfl⟩) (by assumption) ?ria9
    (try simp only [List.getElem_toArray, List.getElem_cons_succ, List.getElem_cons_zero, Act.put, List.setIfInBounds_toArray, List.set_cons_zero, List.set_cons_succ])
    refine wpAnyH_take (i := 10) (oi := _) (v := undef) rfl (by kernel_rfl) (by kernel_rfl) (by kernel_rfl) (fun _ _ _ h => h) (Or.inr ⟨by rfl, rfl⟩) (by assumption) ?ria10
    (try simp only [List.getElem_toArray, List.getElem_cons_succ, List.getElem_cons_zero, Act.put, List.setIfInBounds_toArray, List.set_cons_zero, List.set_cons_succ])
    refine wpAnyH_take (i := 11) (oi := _) (v := undef) rfl (by kernel_rfl) (by kernel_rfl) (by kernel_rfl) (fun _ _ _ h => h) (Or.inr ⟨by rfl, rfl⟩) (by assumption) ?ria11
    (try simp only [List.getElem_toArray, List.getElem_cons_succ, List.getElem_cons_zero, Act.put, List.setIfInBounds_toArray, List.set_cons_zero, List.set_cons_succ])
    refine wpAnyH_take (i := 12) (oi := _) (v := undef) rfl (by kernel_rfl) (by kernel_rfl) (by kernel_rfl) (fun _ _ _ h => h) (Or.inr ⟨by rfl, rfl⟩) (by assumption) ?ria12
    (try simp only [List.getElem_toArray, List.getElem_cons_succ, List.getElem_cons_zero, Act.put, List.setIfInBounds_toArray, List.set_cons_zero, List.set_cons_succ])
    refine wpAnyH_take (i := 13) (oi := _) (v := undef) rfl (by kernel_rfl) (by kernel_rfl) (by kernel_rfl) (fun _ _ _ h => h) (Or.inr ⟨by rfl, rfl⟩) (by assumption) ?ria13
    (try simp only [List.getElem_toArray, List.getElem_cons_succ, List.getElem_cons_zero, Act.put, List.setIfInBounds_toArray, List.set_cons_zero, List.set_cons_succ])
    refine wpAnyH_take (i := 14) (oi := _) (v := undef) rfl (by kernel_rfl) (by kernel_rfl) (by kernel_rfl) (fun _ _ _ h => h) (Or.inr ⟨by rfl, rfl⟩) (by assumption) ?ria14
    (try simp only [List.getElem_toArray, List.getElem_cons_succ, List.getElem_cons_zero, Act.put, List.setIfInBounds_toArray, List.set_cons_zero, List.set_cons_succ])
    refine wpAnyH_take (i := 15) (oi := _) (v := undef) rfl (by kernel_rfl) (by kernel_rfl) (by kernel_rfl) (fun _ _ _ h => h) (Or.inr ⟨by rfl, rfl⟩) (by assumption) ?ria15
    (try simp only [List.getElem_toArray, List.getElem_cons_succ, List.getElem_cons_zero, Act.put, List.setIfInBounds_toArray, List.set_cons_zero, List.set_cons_succ])
    refine wpAnyH_take (i := 16) (oi := _) (v := undef) rfl (by kernel_rfl) (by kernel_rfl) (by kernel_rfl) (fun _ _ _ h => h) (Or.inr ⟨by rfl, rfl⟩) (by assumption) ?ria16
    (try simp only [List.getElem_toArray, List.getElem_cons_succ, List.getElem_cons_zero, Act.put, List.setIfInBounds_toArray, List.set_cons_zero, List.set_cons_succ])
    refine wpAnyH_take (i := 17) (oi := _) (v := ?via17) rfl (by kernel_rfl) (by kernel_rfl) (by kernel_rfl) (fun _ _ _ h => h) (Or.inl ⟨by rfl, ?yia17⟩) (by assumption) ?ria17
    case yia17 => (intro w hSw; go_simp; try with_reducible rfl)
    (try simp only [List.getElem_toArray, List.getElem_cons_succ, List.getElem_cons_zero, Act.put, List.setIfInBounds_toArray, List.set_cons_zero, List.set_cons_succ])
    refine wpAnyH_take (i := 18) (oi := _) (v := ?via18) rfl (by kernel_rfl) (by kernel_rfl) (by kernel_rfl) (fun _ _ _ h => h) (Or.inl ⟨by rfl, ?yia18⟩) (by assumption) ?ria18
    case yia18 => (intro w hSw; go_simp; try with_reducible rfl)
    (try simp only [List.getElem_toArray, List.getElem_cons_succ, List.getElem_cons_zero, Act.put, List.setIfInBounds_toArray, List.set_cons_zero, List.set_cons_succ])
    refine wpAnyH_done (by kernel_rfl) ?_ _
    go_wp2
    go_ret
    exact ⟨by rw [R.out]; rfl, E0.out.trans KD.out (fun _ _ h => h)⟩
  | false =>
    cases en0 with
    | true =>
      refine wp_region_held_drew (S := fun W => Chg (fun _ => False) w2 W) (by kernel_rfl) KD.out (fun hHeld => ?_)
      refine wpAnyH_take (i := 0) (oi := _) (v := ?vib0) rfl (by kernel_rfl) (by kernel_rfl) (by kernel_rfl) (fun _ _ _ h => h) (Or.inl ⟨by rfl, ?yib0⟩) (by assumption) ?rib0
      case yib0 => (intro w hSw; go_simp; try with_reducible rfl)
      (try simp only [List.getElem_toArray, List.getElem_cons_succ, List.getElem_cons_zero, Act.put, List.setIfInBounds_toArray, List.set_cons_zero, List.set_cons_succ])
      refine wpAnyH_take (i := 1) (oi := _) (v := ?vib1) rfl (by kernel_rfl) (by kernel_rfl) (by kernel_rfl) (fun _ _ _ h => h) (Or.inl ⟨by rfl, ?yib1⟩) (by assumption) ?rib1
      case yib1 => (intro w hSw; go_simp; try with_reducible rfl)
      (try simp only [List.getElem_toArray, List.getElem_cons_succ, List.getElem_cons_zero, Act.put, List.setIfInBounds_toArray, List.set_cons_zero, List.set_cons_succ])
      refine wpAnyH_take (i := 2) (oi := _) (v := ?vib2) rfl (by kernel_rfl) (by kernel_rfl) (by kernel_rfl) (fun _ _ _ h => h) (Or.inl ⟨by rfl, ?yib2⟩) (by assumption) ?rib2
      case yib2 => (intro w hSw; go_simp; try with_reducible rfl)
      (try simp only [List.getElem_toArray, List.getElem_cons_succ, List.getElem_cons_zero, Act.put, List.setIfInBounds_toArray, List.set_cons_zero, List.set_cons_succ])
      refine wpAnyH_take (i := 3) (oi := _) (v := ?vib3) rfl (by kernel_rfl) (by kernel_rfl) (by kernel_rfl) (fun _ _ _ h => h) (Or.inl ⟨by rfl, ?yib3⟩) (by assumption) ?rib3
      case yib3 => (intro w hSw; go_simp; try with_reducible rfl)
      (try simp only [List.getElem_toArray, List.getElem_cons_succ, List.getElem_cons_zero, Act.put, List.setIfInBounds_toArray, List.set_cons_zero, List.set_cons_succ])
      refine wpAnyH_take (i := 4) (oi := _) (v := ?vib4) rfl (by kernel_rfl) (by kernel_rfl) (by kernel_rfl) (fun _ _ _ h => h) (Or.inl ⟨by rfl, ?yib4⟩) (by assumption) ?rib4
      case yib4 => (intro w hSw; go_simp; try with_reducible rfl)
      (try simp only [List.getElem_toArray, List.getElem_cons_succ, List.getElem_cons_zero, Act.put, List.setIfInBounds_toArray, List.set_cons_zero, List.set_cons_succ])
      refine wpAnyH_take (i := 5) (oi := _) (v := ?vib5) rfl (by kernel_rfl) (by kernel_rfl) (by kernel_rfl) (fun _ _ _ h => h) (Or.inl ⟨by rfl, ?yib5⟩) (by assumption) ?rib5
      case yib5 => (intro w hSw; go_simp; try with_reducible rfl)
      (try simp only [List.getElem_toArray, List.getElem_cons_succ, List.getElem_cons_zero, Act.put, List.setIfInBounds_toArray, List.set_cons_zero, List.set_cons_succ])
      refine wpAnyH_take (i := 6) (oi := _) (v := ?vib6) rfl (by kernel_rfl) (by kernel_rfl) (by kernel_rfl) (fun _ _ _ h => h) (Or.inl ⟨by rfl, ?yib6⟩) (by assumption) ?rib6
      case yib6 => (intro w hSw; go_simp; try with_reducible rfl)
      (try simp only [List.getElem_toArray, List.getElem_cons_succ, List.getElem_cons_zero, Act.put, List.setIfInBounds_toArray, List.set_cons_zero, List.set_cons_succ])
      refine wpAnyH_take (i := 7) (oi := _) (v := ?vib7) rfl (by kernel_rfl) (by kernel_rfl) (by kernel_rfl) (fun _ _ _ h => h) (Or.inl ⟨by rfl, ?yib7⟩) (by assumption) ?rib7
      case yib7 => (intro w hSw; go_simp; try with_reducible rfl)
      (try simp only [List.getElem_toArray, List.getElem_cons_succ, List.getElem_cons_zero, Act.put, List.setIfInBounds_toArray, List.set_cons_zero, List.set_cons_succ])
      refine wpAnyH_take (i := 8) (oi := _) (v := ?vib8) rfl (by kernel_rfl) (by kernel_rfl) (by kernel_rfl) (fun _ _ _ h => h) (Or.inl ⟨by rfl, ?yib8⟩) (by assumption) ?rib8
      case yib8 => (intro w hSw; go_simp; try with_reducible rfl)
      (try simp only [List.getElem_toArray, List.getElem_cons_succ, List.getElem_cons_zero, Act.put, List.setIfInBounds_toArray, List.set_cons_zero, List.set_cons_succ])
      refine wpAnyH_take (i := 9) (oi := _) (v := ?vib9) rfl (by kernel_rfl) (by kernel_rfl) (by kernel_rfl) (fun _ _ _ h => h) (Or.inl ⟨by rfl, ?yib9⟩) (by assumption) ?rib9
      case yib9 => (intro w hSw; go_simp; try with_reducible rfl)
      (try simp only [List.getElem_toArray, List.getElem_cons_succ, List.getElem_cons_zero, Act.put, List.setIfInBounds_toArray, List.set_cons_zero, List.set_cons_succ])
      refine wpAnyH_take (i := 10) (oi := _) (v := undef) rfl (by kernel_rfl) (by kernel_rfl) (by kernel_rfl) (fun _ _ _ h => h) (Or.inr ⟨by rfl, rfl⟩) (by assumption) ?rib10
      (try simp only [List.getElem_toArray, List.getElem_cons_succ, List.getElem_cons_zero, Act.put, List.setIfInBounds_toArray, List.set_cons_zero, List.set_cons_succ])
      refine wpAnyH_take (i := 11) (oi := _) (v := undef) rfl (by kernel_rfl) (by kernel_rfl) (by kernel_rfl) (fun _ _ _ h => h) (Or.inr ⟨by rfl, rfl⟩) (by assumption) ?rib11
      (try simp only [List.getElem_toArray, List.getElem_cons_succ, List.getElem_cons_zero, Act.put, List.setIfInBounds_toArray, List.set_cons_zero, List.set_cons_succ])
      refine wpAnyH_take (i := 12) (oi := _) (v := undef) rfl (by kernel_rfl) (by kernel_rfl) (by kernel_rfl) (fun _ _ _ h => h) (Or.inr ⟨by rfl, rfl⟩) (by assumption) ?rib12
      (try simp only [List.getElem_toArray, List.getElem_cons_succ, List.getElem_cons_zero, Act.put, List.setIfInBounds_toArray, List.set_cons_zero, List.set_cons_succ])
      refine wpAnyH_take (i := 13) (oi := _) (v := undef) rfl (by kernel_rfl) (by kernel_rfl) (by kernel_rfl) (fun _ _ _ h => h) (Or.inr ⟨by rfl, rfl⟩) (by assumption) ?rib13
      (try simp only [List.getElem_toArray, List.getElem_cons_succ, List.getElem_cons_zero, Act.put, List.setIfInBounds_toArray, List.set_cons_zero, List.set_cons_succ])
      refine wpAnyH_take (i := 14) (oi := _) (v := undef) rfl (by kernel_rfl) (by kernel_rfl) (by kernel_rfl) (fun _ _ _ h => h) (Or.inr ⟨by rfl, rfl⟩) (by assumption) ?rib14
      (try simp only [List.getElem_toArray, List.getElem_cons_succ, List.getElem_cons_zero, Act.put, List.setIfInBounds_toArray, List.set_cons_zero, List.set_cons_succ])
      refine wpAnyH_take (i := 15) (oi := _) (v := undef) rfl (by kernel_rfl) (by kernel_rfl) (by kernel_rfl) (fun _ _ _ h => h) (Or.inr ⟨by rfl, rfl⟩) (by assumption) ?rib15
      (try simp only [List.getElem_toArray, List.getElem_cons_succ, List.getElem_cons_zero, Act.put, List.setIfInBounds_toArray, List.set_cons_zero, List.set_cons_succ])
      refine wpAnyH_take (i := 16) (oi := _) (v := ?vib16) rfl (by kernel_rfl) (by kernel_rfl) (by kernel_rfl) (fun _ _ _ h => h) (Or.inl ⟨by rfl, ?yib16⟩) (by assumption) ?rib16
      case yib16 => (intro w hSw; go_simp; try with_reducible rfl)
      (try simp only [List.getElem_toArray, List.getElem_cons_succ, List.getElem_cons_zero, Act.put, List.setIfInBounds_toArray, List.set_cons_zero, List.set_cons_succ])
      refine wpAnyH_take (i := 17) (oi := _) (v := ?vib17) rfl (by kernel_rfl) (by kernel_rfl) (by kernel_rfl) (fun _ _ _ h => h) (Or.inl ⟨by rfl, ?yib17⟩) (by assumption) ?rib17
      case yib17 => (intro w hSw; go_simp; try with_reducible rfl)
      (try simp only [List.getElem_toArray, List.getElem_cons_succ, List.getElem_cons_zero, Act.put, List.setIfInBounds_toArray, List.set_cons_zero, List.set_cons_succ])
      refine wpAnyH_take (i := 18) (oi := _) (v := ?vib18) rfl (by kernel_rfl) (by kernel_rfl) (by kernel_rfl) (fun _ _ _ h => h) (Or.inl ⟨by rfl, ?yib18⟩) (by assumption) ?rib18
      case yib18 => (intro w hSw; go_simp; try with_reducible rfl)
      (try simp only [List.getElem_toArray, List.getElem_cons_succ, List.getElem_cons_zero, Act.put, List.setIfInBounds_toArray, List.set_cons_zero, List.set_cons_succ])
      refine wpAnyH_done (by kernel_rfl) ?_ _
      go_wp2
      go_ret
      exact ⟨by rw [R.out]; rfl, E0.out.trans KD.out (fun _ _ h => h)⟩
    | false =>
      cases b2 with
      | true =>
        refine wp_region_held_drew (S := fun W => Chg (fun _ => False) w2 W) (by kernel_rfl) KD.out (fun hHeld => ?_)
        refine wpAnyH_take (i := 0) (oi := _) (v := ?vic0) rfl (by kernel_rfl) (by kernel_rfl) (by kernel_rfl) (fun _ _ _ h => h) (Or.inl ⟨by rfl, ?yic0⟩) (by assumption) ?ric0
        case yic0 => (intro w hSw; go_simp; try with_reducible rfl)
        (try simp only [List.getElem_toArray, List.getElem_cons_succ, List.getElem_cons_zero, Act.put, List.setIfInBounds_toArray, List.set_cons_zero, List.set_cons_succ])
        refine wpAnyH_take (i := 1) (oi := _) (v := ?vic1) rfl (by kernel_rfl) (by kernel_rfl) (by kernel_rfl) (fun _ _ _ h => h) (Or.inl ⟨by rfl, ?yic1⟩) (by assumption) ?ric1
        case yic1 => (intro w hSw; go_simp; try with_reducible rfl)
        (try simp only [List.getElem_toArray, List.getElem_cons_succ, List.getElem_cons_zero, Act.put, List.setIfInBounds_toArray, List.set_cons_zero, List.set_cons_succ])
        refine wpAnyH_take (i := 2) (oi := _) (v := ?vic2) rfl (by kernel_rfl) (by kernel_rfl) (by kernel_rfl) (fun _ _ _ h => h) (Or.inl ⟨by rfl, ?yic2⟩) (by assumption) ?ric2
        case yic2 => (intro w hSw; go_simp; try with_reducible rfl)
        (try simp only [List.getElem_toArray, List.getElem_cons_succ, List.getElem_cons_zero, Act.put, List.setIfInBounds_toArray, List.set_cons_zero, List.set_cons_succ])
        refine wpAnyH_take (i := 3) (oi := _) (v := ?vic3) rfl (by kernel_rfl) (by kernel_rfl) (by kernel_rfl) (fun _ _ _ h => h) (Or.inl ⟨by rfl, ?yic3⟩) (by assumption) ?ric3
        case yic3 => (intro w hSw; go_simp; try with_reducible rfl)
        (try simp only [List.getElem_toArray, List.getElem_cons_succ, List.getElem_cons_zero, Act.put, List.setIfInBounds_toArray, List.set_cons_zero, List.set_cons_succ])
        refine wpAnyH_take (i := 4) (oi := _) (v := ?vic4) rfl (by kernel_rfl) (by kernel_rfl) (by kernel_rfl) (fun _ _ _ h => h) (Or.inl ⟨by rfl, ?yic4⟩) (by assumption) ?ric4
        case yic4 => (intro w hSw; go_simp; try with_reducible rfl)
        (try simp only [List.getElem_toArray, List.getElem_cons_succ, List.getElem_cons_zero, Act.put, List.setIfInBounds_toArray, List.set_cons_zero, List.set_cons_succ])
        refine wpAnyH_take (i := 5) (oi := _) (v := ?vic5) rfl (by kernel_rfl) (by kernel_rfl) (by kernel_rfl) (fun _ _ _ h => h) (Or.inl ⟨by rfl, ?yic5⟩) (by assumption) ?ric5
        case yic5 => (intro w hSw; go_simp; try with_reducible rfl)
        (try simp only [List.getElem_toArray, List.getElem_cons_succ, List.getElem_cons_zero, Act.put, List.setIfInBounds_toArray, List.set_cons_zero, List.set_cons_succ])
        refine wpAnyH_take (i := 6) (oi := _) (v := ?vic6) rfl (by kernel_rfl) (by kernel_rfl) (by kernel_rfl) (fun _ _ _ h => h) (Or.inl ⟨by rfl, ?yic6⟩) (by assumption) ?ric6
        case yic6 => (intro w hSw; go_simp; try with_reducible rfl)
        (try simp only [List.getElem_toArray, List.getElem_cons_succ, List.getElem_cons_zero, Act.put, List.setIfInBounds_toArray, List.set_cons_zero, List.set_cons_succ])
        refine wpAnyH_take (i := 7) (oi := _) (v := ?vic7) rfl (by kernel_rfl) (by kernel_rfl) (by kernel_rfl) (fun _ _ _ h => h) (Or.inl ⟨by rfl, ?yic7⟩) (by assumption) ?ric7
        case yic7 => (intro w hSw; go_simp; try with_reducible rfl)
        (try simp only [List.getElem_toArray, List.getElem_cons_succ, List.getElem_cons_zero, Act.put, List.setIfInBounds_toArray, List.set_cons_zero, List.set_cons_succ])
        refine wpAnyH_take (i := 8) (oi := _) (v := ?vic8) rfl (by kernel_rfl) (by kernel_rfl) (by kernel_rfl) (fun _ _ _ h => h) (Or.inl ⟨by rfl, ?yic8⟩) (by assumption) ?ric8
        case yic8 => (intro w hSw; go_simp; try with_reducible rfl)
        (try simp only [List.getElem_toArray, List.getElem_cons_succ, List.getElem_cons_zero, Act.put, List.setIfInBounds_toArray, List.set_cons_zero, List.set_cons_succ])
        refine wpAnyH_take (i := 9) (oi := _) (v := ?vic9) rfl (by kernel_rfl) (by kernel_rfl) (by kernel_rfl) (fun _ _ _ h => h) (Or.inl ⟨by rfl, ?yic9⟩) (by assumption) ?ric9
        case yic9 => (intro w hSw; go_simp; try with_reducible rfl)
        (try simp only [List.getElem_toArray, List.getElem_cons_succ, List.getElem_cons_zero, Act.put, List.setIfInBounds_toArray, List.set_cons_zero, List.set_cons_succ])
        refine wpAnyH_take (i := 10) (oi := _) (v := ?vic10) rfl (by kernel_rfl) (by kernel_rfl) (by kernel_rfl) (fun _ _ _ h => h) (Or.inl ⟨by rfl, ?yic10⟩) (by assumption) ?ric10
        case yic10 => (intro w hSw; go_simp; try with_reducible rfl)
        (try simp only [List.getElem_toArray, List.getElem_cons_succ, List.getElem_cons_zero, Act.put, List.setIfInBounds_toArray, List.set_cons_zero, List.set_cons_succ])
        refine wpAnyH_take (i := 11) (oi := _) (v := ?vic11) rfl (by kernel_rfl) (by kernel_rfl) (by kernel_rfl) (fun _ _ _ h => h) (Or.inl ⟨by rfl, ?yic11⟩) (by assumption) ?ric11
        case yic11 => (intro w hSw; go_simp; try with_reducible rfl)
        (try simp only [List.getElem_toArray, List.getElem_cons_succ, List.getElem_cons_zero, Act.put, List.setIfInBounds_toArray, List.set_cons_zero, List.set_cons_succ])
        refine wpAnyH_take (i := 12) (oi := _) (v := ?vic12) rfl (by kernel_rfl) (by kernel_rfl) (by kernel_rfl) (fun _ _ _ h => h) (Or.inl ⟨by rfl, ?yic12⟩) (by assumption) ?ric12
        case yic12 => (intro w hSw; go_simp; try with_reducible rfl)
        (try simp only [List.getElem_toArray, List.getElem_cons_succ, List.getElem_cons_zero, Act.put, List.setIfInBounds_toArray, List.set_cons_zero, List.set_cons_succ])
        refine wpAnyH_take (i := 13) (oi := _) (v := ?vic13) rfl (by kernel_rfl) (by kernel_rfl) (by kernel_rfl) (fun _ _ _ h => h) (Or.inl ⟨by rfl, ?yic13⟩) (by assumption) ?ric13
        case yic13 => (intro w hSw; go_simp; try with_reducible rfl)
        (try simp only [List.getElem_toArray, List.getElem_cons_succ, List.getElem_cons_zero, Act.put, List.setIfInBounds_toArray, List.set_cons_zero, List.set_cons_succ])
        refine wpAnyH_take (i := 14) (oi := _) (v := ?vic14) rfl (by kernel_rfl) (by kernel_rfl) (by kernel_rfl) (fun _ _ _ h => h) (Or.inl ⟨by rfl, ?yic14⟩) (by assumption) ?ric14
        case yic14 => (intro w hSw; go_simp; try with_reducible rfl)
        (try simp only [List.getElem_toArray, List.getElem_cons_succ, List.getElem_cons_zero, Act.put, List.setIfInBounds_toArray, List.set_cons_zero, List.set_cons_succ])
        refine wpAnyH_take (i := 15) (oi := _) (v := ?vic15) rfl (by kernel_rfl) (by kernel_rfl) (by kernel_rfl) (fun _ _ _ h => h) (Or.inl ⟨by rfl, ?yic15⟩) (by assumption) ?ric15
        case yic15 => (intro w hSw; go_simp; try with_reducible rfl)
        (try simp only [List.getElem_toArray, List.getElem_cons_succ, List.getElem_cons_zero, Act.put, List.setIfInBounds_toArray, List.set_cons_zero, List.set_cons_succ])
        refine wpAnyH_take (i := 16) (oi := _) (v := ?vic16) rfl (by kernel_rfl) (by kernel_rfl) (by kernel_rfl) (fun _ _ _ h => h) (Or.inl ⟨by rfl, ?yic16⟩) (by assumption) ?ric16
        case yic16 => (intro w hSw; go_simp; try with_reducible rfl)
        (try simp only [List.getElem_toArray, List.getElem_cons_succ, List.getElem_cons_zero, Act.put, List.setIfInBounds_toArray, List.set_cons_zero, List.set_cons_succ])
        refine wpAnyH_take (i := 17) (oi := _) (v := ?vic17) rfl (by kernel_rfl) (by kernel_rfl) (by kernel_rfl) (fun _ _ _ h => h) (Or.inl ⟨by rfl, ?yic17⟩) (by assumption) ?ric17
        case yic17 => (intro w hSw; go_simp; try with_reducible rfl)
        (try simp only [List.getElem_toArray, List.getElem_cons_succ, List.getElem_cons_zero, Act.put, List.setIfInBounds_toArray, List.set_cons_zero, List.set_cons_succ])
        refine wpAnyH_take (i := 18) (oi := _) (v := ?vic18) rfl (by kernel_rfl) (by kernel_rfl) (by kernel_rfl) (fun _ _ _ h => h) (Or.inl ⟨by rfl, ?yic18⟩) (by assumption) ?ric18
        case yic18 => (intro w hSw; go_simp; try with_reducible rfl)
        (try simp only [List.getElem_toArray, List.getElem_cons_succ, List.getElem_cons_zero, Act.put, List.setIfInBounds_toArray, List.set_cons_zero, List.set_cons_succ])
        refine wpAnyH_done (by kernel_rfl) ?_ _
        go_wp2
        go_ret
        exact ⟨by rw [R.out]; rfl, E0.out.trans KD.out (fun _ _ h => h)⟩
      | false =>
        refine wp_region_held_drew (S := fun W => Chg (fun _ => False) w2 W) (by kernel_rfl) KD.out (fun hHeld => ?_)
        refine wpAnyH_take (i := 0) (oi := _) (v := ?vid0) rfl (by kernel_rfl) (by kernel_rfl) (by kernel_rfl) (fun _ _ _ h => h) (Or.inl ⟨by rfl, ?yid0⟩) (by assumption) ?rid0
        case yid0 => (intro w hSw; go_simp; try with_reducible rfl)
        (try simp only [List.getElem_toArray, List.getElem_cons_succ, List.getElem_cons_zero, Act.put, List.setIfInBounds_toArray, List.set_cons_zero, List.set_cons_succ])
        refine wpAnyH_take (i := 1) (oi := _) (v := ?vid1) rfl (by kernel_rfl) (by kernel_rfl) (by kernel_rfl) (fun _ _ _ h => h) (Or.inl ⟨by rfl, ?yid1⟩) (by assumption) ?rid1
        case yid1 => (intro w hSw; go_simp; try with_reducible rfl)
        (try simp only [List.getElem_toArray, List.getElem_cons_succ, List.getElem_cons_zero, Act.put, List.setIfInBounds_toArray, List.set_cons_zero, List.set_cons_succ])
        refine wpAnyH_take (i := 2) (oi := _) (v := ?vid2) rfl (by kernel_rfl) (by kernel_rfl) (by kernel_rfl) (fun _ _ _ h => h) (Or.inl ⟨by rfl, ?yid2⟩) (by assumption) ?rid2
        case yid2 => (intro w hSw; go_simp; try with_reducible rfl)
        (try simp only [List.getElem_toArray, List.getElem_cons_succ, List.getElem_cons_zero, Act.put, List.setIfInBounds_toArray, List.set_cons_zero, List.set_cons_succ])
        refine wpAnyH_take (i := 3) (oi := _) (v := ?vid3) rfl (by kernel_rfl) (by kernel_rfl) (by kernel_rfl) (fun _ _ _ h => h) (Or.inl ⟨by rfl, ?yid3⟩) (by assumption) ?rid3
        case yid3 => (intro w hSw; go_simp; try with_reducible rfl)
        (try simp only [List.getElem_toArray, List.getElem_cons_succ, List.getElem_cons_zero, Act.put, List.setIfInBounds_toArray, List.set_cons_zero, List.set_cons_succ])
        refine wpAnyH_take (i := 4) (oi := _) (v := ?vid4) rfl (by kernel_rfl) (by kernel_rfl) (by kernel_rfl) (fun _ _ _ h => h) (Or.inl ⟨by rfl, ?yid4⟩) (by assumption) ?rid4
        case yid4 => (intro w hSw; go_simp; try with_reducible rfl)
        (try simp only [List.getElem_toArray, List.getElem_cons_succ, List.getElem_cons_zero, Act.put, List.setIfInBounds_toArray, List.set_cons_zero, List.set_cons_succ])
        refine wpAnyH_take (i := 5) (oi := _) (v := ?vid5) rfl (by kernel_rfl) (by kernel_rfl) (by kernel_rfl) (fun _ _ _ h => h) (Or.inl ⟨by rfl, ?yid5⟩) (by assumption) ?rid5
        case yid5 => (intro w hSw; go_simp; try with_reducible rfl)
        (try simp only [List.getElem_toArray, List.getElem_cons_succ, List.getElem_cons_zero, Act.put, List.setIfInBounds_toArray, List.set_cons_zero, List.set_cons_succ])
        refine wpAnyH_take (i := 6) (oi := _) (v := ?vid6) rfl (by kernel_rfl) (by kernel_rfl) (by kernel_rfl) (fun _ _ _ h => h) (Or.inl ⟨by rfl, ?yid6⟩) (by assumption) ?rid6
        case yid6 => (intro w hSw; go_simp; try with_reducible rfl)
        (try simp only [List.getElem_toArray, List.getElem_cons_succ, List.getElem_cons_zero, Act.put, List.setIfInBounds_toArray, List.set_cons_zero, List.set_cons_succ])
        refine wpAnyH_take (i := 7) (oi := _) (v := ?vid7) rfl (by kernel_rfl) (by kernel_rfl) (by kernel_rfl) (fun _ _ _ h => h) (Or.inl ⟨by rfl, ?yid7⟩) (by assumption) ?rid7
        case yid7 => (intro w hSw; go_simp; try with_reducible rfl)
        (try simp only [List.getElem_toArray, List.getElem_cons_succ, List.getElem_cons_zero, Act.put, List.setIfInBounds_toArray, List.set_cons_zero, List.set_cons_succ])
        refine wpAnyH_take (i := 8) (oi := _) (v := ?vid8) rfl (by kernel_rfl) (by kernel_rfl) (by kernel_rfl) (fun _ _ _ h => h) (Or.inl ⟨by rfl, ?yid8⟩) (by assumption) ?rid8
        case yid8 => (intro w hSw; go_simp; try with_reducible rfl)
        (try simp only [List.getElem_toArray, List.getElem_cons_succ, List.getElem_cons_zero, Act.put, List.setIfInBounds_toArray, List.set_cons_zero, List.set_cons_succ])
        refine wpAnyH_take (i := 9) (oi := _) (v := ?vid9) rfl (by kernel_rfl) (by kernel_rfl) (by kernel_rfl) (fun _ _ _ h => h) (Or.inl ⟨by rfl, ?yid9⟩) (by assumption) ?rid9
        case yid9 => (intro w hSw; go_simp; try with_reducible rfl)
        (try simp only [List.getElem_toArray, List.getElem_cons_succ, List.getElem_cons_zero, Act.put, List.setIfInBounds_toArray, List.set_cons_zero, List.set_cons_succ])
        refine wpAnyH_take (i := 10) (oi := _) (v := ?vid10) rfl (by kernel_rfl) (by kernel_rfl) (by kernel_rfl) (fun _ _ _ h => h) (Or.inl ⟨by rfl, ?yid10⟩) (by assumption) ?rid10
        case yid10 => (intro w hSw; go_simp; try with_reducible rfl)
        (try simp only [List.getElem_toArray, List.getElem_cons_succ, List.getElem_cons_zero, Act.put, List.setIfInBounds_toArray, List.set_cons_zero, List.set_cons_succ])
        refine wpAnyH_take (i := 11) (oi := _) (v := ?vid11) rfl (by kernel_rfl) (by kernel_rfl) (by kernel_rfl) (fun _ _ _ h => h) (Or.inl ⟨by rfl, ?yid11⟩) (by assumption) ?rid11
        case yid11 => (intro w hSw; go_simp; try with_reducible rfl)
        (try simp only [List.getElem_toArray, List.getElem_cons_succ, List.getElem_cons_zero, Act.put, List.setIfInBounds_toArray, List.set_cons_zero, List.set_cons_succ])
        refine wpAnyH_take (i := 12) (oi := _) (v := ?vid12) rfl (by kernel_rfl) (by kernel_rfl) (by kernel_rfl) (fun _ _ _ h => h) (Or.inl ⟨by rfl, ?yid12⟩) (by assumption) ?rid12
        case yid12 => (intro w hSw; go_simp; try with_reducible rfl)
        (try simp only [List.getElem_toArray, List.getElem_cons_succ, List.getElem_cons_zero, Act.put, List.setIfInBounds_toArray, List.set_cons_zero, List.set_cons_succ])
        refine wpAnyH_take (i := 13) (oi := _) (v := ?vid13) rfl (by kernel_rfl) (by kernel_rfl) (by kernel_rfl) (fun _ _ _ h => h) (Or.inl ⟨by rfl, ?yid13⟩) (by assumption) ?rid13
        case yid13 => (intro w hSw; go_simp; try with_reducible rfl)
        (try simp only [List.getElem_toArray, List.getElem_cons_succ, List.getElem_cons_zero, Act.put, List.setIfInBounds_toArray, List.set_cons_zero, List.set_cons_succ])
        refine wpAnyH_take (i := 14) (oi := _) (v := ?vid14) rfl (by kernel_rfl) (by kernel_rfl) (by kernel_rfl) (fun _ _ _ h => h) (Or.inl ⟨by rfl, ?yid14⟩) (by assumption) ?rid14
        case yid14 => (intro w hSw; go_simp; try with_reducible rfl)
        (try simp only [List.getElem_toArray, List.getElem_cons_succ, List.getElem_cons_zero, Act.put, List.setIfInBounds_toArray, List.set_cons_zero, List.set_cons_succ])
        refine wpAnyH_take (i := 15) (oi := _) (v := ?vid15) rfl (by kernel_rfl) (by kernel_rfl) (by kernel_rfl) (fun _ _ _ h => h) (Or.inl ⟨by rfl, ?yid15⟩) (by assumption) ?rid15
        case yid15 => (intro w hSw; go_simp; try with_reducible rfl)
        (try simp only [List.getElem_toArray, List.getElem_cons_succ, List.getElem_cons_zero, Act.put, List.setIfInBounds_toArray, List.set_cons_zero, List.set_cons_succ])
        refine wpAnyH_take (i := 16) (oi := _) (v := ?vid16) rfl (by kernel_rfl) (by kernel_rfl) (by kernel_rfl) (fun _ _ _ h => h) (Or.inl ⟨by rfl, ?yid16⟩) (by assumption) ?rid16
        case yid16 => (intro w hSw; go_simp; try with_reducible rfl)
        (try simp only [List.getElem_toArray, List.getElem_cons_succ, List.getElem_cons_zero, Act.put, List.setIfInBounds_toArray, List.set_cons_zero, List.set_cons_succ])
        refine wpAnyH_take (i := 17) (oi := _) (v := ?vid17) rfl (by kernel_rfl) (by kernel_rfl) (by kernel_rfl) (fun _ _ _ h => h) (Or.inl ⟨by rfl, ?yid17⟩) (by assumption) ?rid17
        case yid17 => (intro w hSw; go_simp; try with_reducible rfl)
        (try simp only [List.getElem_toArray, List.getElem_cons_succ, List.getElem_cons_zero, Act.put, List.setIfInBounds_toArray, List.set_cons_zero, List.set_cons_succ])
        refine wpAnyH_take (i := 18) (oi := _) (v := ?vid18) rfl (by kernel_rfl) (by kernel_rfl) (by kernel_rfl) (fun _ _ _ h => h) (Or.inl ⟨by rfl, ?yid18⟩) (by assumption) ?rid18
        case yid18 => (intro w hSw; go_simp; try with_reducible rfl)
        (try simp only [List.getElem_toArray, List.getElem_cons_succ, List.getElem_cons_zero, Act.put, List.setIfInBounds_toArray, List.set_cons_zero, List.set_cons_succ])
        refine wpAnyH_done (by kernel_rfl) ?_ _
        go_wp2
        go_ret
        exact ⟨by rw [R.out]; rfl, E0.out.trans KD.out (fun _ _ h => h)⟩
theorem hasL_no {k : Key} {ss : List Sp} (h : ∀ i (hi : i < ss.length), hasS k ss[i] = false) : hasL k ss = false := by
  unfold hasL
  rw [List.any_eq_false]
  intro s hs
  obtain ⟨i, hi, rfl⟩ := List.getElem_of_mem hs
  rw [h i hi]; simp
theorem hasL_yes {k : Key} {ss : List Sp} {i : Nat} (hi : i < ss.length) (h : hasS k ss[i] = true) : hasL k ss = true := by
  unfold hasL
  rw [List.any_eq_true]
  exact ⟨ss[i], List.getElem_mem hi, h⟩
set_option maxHeartbeats 2000000 in
set_option maxRecDepth 100000 in
theorem hasR_any (k : Key) (v : Value) (ss : List Sp) (w : World) (hs : SpansIn w v ss) (hn : ss.length ≤ 1000000) : Calls Try.prog 23 #[v, keyV k] w fun e w' => e = .returned (.bool (hasL k ss)) ∧ Chg (fun _ => False) w w' := by
  have mixed := Try.mixed
  have k1 : ¬ K24 = 0 := by decide
  have k2 : ¬ K49 = 0 := by decide
  obtain ⟨a, c, rfl, hl, hr, _⟩ := hs
  have HR := Lib.hid hr
  clear hr hl
  generalize hlen : ss.length = n at hn ⊢
  have HN := Lib.hid hlen
  clear hlen
  have C0 : Hid (CellsAt (w.alloc (.cells (keyCells k).toArray 26)) w.heap.size 0 (keyCells k)) := cellsAt_new w (keyCells k) 26
  have E0 : Hid (Chg (fun _ => False) w (w.alloc (.cells (keyCells k).toArray 26))) := chg_alloc _ _ _
  have IN : Hid (∀ s W, Calls Try.prog 43 #[.agg (spanCells s).toArray, .agg (keyCells k).toArray] W fun e w' => e = .returned (.bool (hasS k s)) ∧ Chg (fun _ => False) W w') := fun s W => inR_any s k W
  unfold keyV
  generalize hw0 : w.alloc (.cells (keyCells k).toArray 26) = w0 at C0 E0
  go_enter Try.func23, Try.ntmps23
  go_upto_block 0 with fail
  try rw [hw0]
  clear hw0
  go_wp2
  go_loopg [5] n (fun kx s5 wr => ∃ t : Nat, s5 = .int .i64 t ∧ t ≤ n ∧ n - t ≤ kx ∧ Aside (∀ i (hi : i < ss.length), i < t → hasS k ss[i] = false) ∧ Aside (Chg (fun _ => False) w0 wr))
  case atStart => exact ⟨0, rfl, Nat.zero_le _, by omega, fun i hi h => by omega, Chg.refl _ _⟩
  case round =>
    obtain ⟨t, rfl, ht, hg, B, Y⟩ := hrel
    have Y : Hid (Chg (fun _ => False) w0 wr) := Y
    have z0 : (0 : Int) ≤ (t : Int) := by omega
    by_cases hlt : t < n
    · have z1 : (t : Int) < (n : Int) := by omega
      have htl : t < ss.length := by rw [HN.out]; exact hlt
      obtain ⟨b, off, rfl, row⟩ := HR.out (by omega)
      have X0 : Hid (Chg (fun _ => False) w wr) := E0.out.trans Y.out (fun _ _ h => h)
      have r1 : ∀ W, Chg (fun _ => False) wr W → Sem.run Try.prog (loadCellsFrom ⟨b, off + t * K49, none⟩ 0 K49 #[]) W = .ok (spanCells ss[t]).toArray W := fun W X => (X.cells (X0.out.cells (row t htl) id) id).load _ K49 (spanCells_length _)
      have r2 : ∀ W, Chg (fun _ => False) wr W → Sem.run Try.prog (loadCellsFrom ⟨w.heap.size, 0, none⟩ 0 K24 #[]) W = .ok (keyCells k).toArray W := fun W X => (X.cells (Y.out.cells C0.out id) id).load _ K24 (keyCells_length _)
      have KD : Hid (Chg (fun _ => False) wr wr.drew) := (Ext.refl wr).drew.chg _
      generalize hx : ss[t] = x at r1
      have HX := Lib.hid hx
      clear hx row
      go_upto_region 4 with fail
      refine wp_region_held_drew (S := fun W => Chg (fun _ => False) wr W) (by kernel_rfl) KD.out (fun hHeld => ?_)
      refine wpAnyH_take (i := 0) (oi := _) (v := ?vha0) rfl (by kernel_rfl) (by kernel_rfl) (by kernel_rfl) (fun _ _ _ h => h) (Or.inl ⟨by rfl, ?yha0⟩) (by assumption) ?rha0
      case yha0 => (intro w hSw; go_simp; try with_reducible rfl)
      (try simp only [List.getElem_toArray, List.getElem_cons_succ, List.getElem_cons_zero, Act.put, List.setIfInBounds_toArray, List.set_cons_zero, List.set_cons_succ])
      refine wpAnyH_take (i := 1) (oi := _) (v := ?vha1) rfl (by kernel_rfl) (by kernel_rfl) (by kernel_rfl) (fun _ _ _ h => h) (Or.inl ⟨by rfl, ?yha1⟩) (by assumption) ?rha1
      case yha1 => (intro w hSw; go_simp; try with_reducible rfl)
      (try simp only [List.getElem_toArray, List.getElem_cons_succ, List.getElem_cons_zero, Act.put, List.setIfInBounds_toArray, List.set_cons_zero, List.set_cons_succ])
      refine wpAnyH_take (i := 2) (oi := _) (v := ?vha2) rfl (by kernel_rfl) (by kernel_rfl) (by kernel_rfl) (fun _ _ _ h => h) (Or.inl ⟨by rfl, ?yha2⟩) (by assumption) ?rha2
      case yha2 => (intro w hSw; go_simp; try with_reducible rfl)
      (try simp only [List.getElem_toArray, List.getElem_cons_succ, List.getElem_cons_zero, Act.put, List.setIfInBounds_toArray, List.set_cons_zero, List.set_cons_succ])
      refine wpAnyH_take (i := 3) (oi := _) (v := ?vha3) rfl (by kernel_rfl) (by kernel_rfl) (by kernel_rfl) (fun _ _ _ h => h) (Or.inl ⟨by rfl, ?yha3⟩) (by assumption) ?rha3
      case yha3 => (intro w hSw; go_simp; try with_reducible rfl)
      (try simp only [List.getElem_toArray, List.getElem_cons_succ, List.getElem_cons_zero, Act.put, List.setIfInBounds_toArray, List.set_cons_zero, List.set_cons_succ])
      refine wpAnyH_take (i := 4) (oi := _) (v := ?vha4) rfl (by kernel_rfl) (by kernel_rfl) (by kernel_rfl) (fun _ _ _ h => h) (Or.inl ⟨by rfl, ?yha4⟩) (by assumption) ?rha4
      case yha4 => (intro w hSw; go_simp; try with_reducible rfl)
      (try simp only [List.getElem_toArray, List.getElem_cons_succ, List.getElem_cons_zero, Act.put, List.setIfInBounds_toArray, List.set_cons_zero, List.set_cons_succ])
      refine wpAnyH_ready (rs := [5]) (by kernel_rfl) (by simp) ?_
      refine AllReadyH.cons (o := _) rfl (fun K hK => ?_) AllReadyH.nil
      (try simp only [List.getElem_toArray, List.getElem_cons_succ, List.getElem_cons_zero])
      go_simp
      refine (IN.out x _).mono ?_
      rintro e wA ⟨rfl, XA⟩
      have XA : Hid (Chg (fun _ => False) wr wA) := KD.out.trans XA (fun _ _ h => h)
      refine hK.out _ _ ?_ (fun hHeld => ?_)
      · exact XA.out
      clear hK K
      (try simp only [List.getElem_toArray, List.getElem_cons_succ, List.getElem_cons_zero, Act.put, List.setIfInBounds_toArray, List.set_cons_zero, List.set_cons_succ])
      refine wpAnyH_take (i := 6) (oi := _) (v := ?vha6) rfl (by kernel_rfl) (by kernel_rfl) (by kernel_rfl) (fun _ _ _ h => h) (Or.inl ⟨by rfl, ?yha6⟩) (by assumption) ?rha6
      case yha6 => (intro w hSw; go_simp; try with_reducible rfl)
      (try simp only [List.getElem_toArray, List.getElem_cons_succ, List.getElem_cons_zero, Act.put, List.setIfInBounds_toArray, List.set_cons_zero, List.set_cons_succ])
      refine wpAnyH_done (by kernel_rfl) ?_ _
      have Y2 : Hid (Chg (fun _ => False) w0 wA) := Y.out.trans XA.out (fun _ _ h => h)
      clear r1 r2 KD XA hHeld
      cases hh : hasS k x with
      | true =>
        have R : Hid (hasL k ss = true) := hasL_yes htl (by rw [HX.out]; exact hh)
        clear hh
        go_wp2
        go_ret
        exact ⟨by rw [R.out]; rfl, E0.out.trans Y2.out (fun _ _ h => h)⟩
      | false =>
        have B2 : Hid (∀ i (hi : i < ss.length), i < t + 1 → hasS k ss[i] = false) := fun i hi h => by
          by_cases e : i = t
          · subst e; rw [HX.out]; exact hh
          · exact B.out i hi (by omega)
        clear hh
        go_wp2
        go_roundg (n - (t + 1))
        case measure => omega
        case rel => exact ⟨t + 1, by go_num, by omega, Nat.le_refl _, B2.out, Y2.out⟩
    · have z1 : ¬ (t : Int) < (n : Int) := by omega
      have R : Hid (hasL k ss = false) := hasL_no (fun i hi => B.out i hi (by have := HN.out; omega))
      go_wp2
      go_ret
      exact ⟨by rw [R.out]; rfl, E0.out.trans Y.out (fun _ _ h => h)⟩
theorem anyL_no {ss : List Sp} {ks : List Key} (h : ∀ i (hi : i < ks.length), hasL ks[i] ss = false) : anyL ss ks = false := by
  unfold anyL
  rw [List.any_eq_false]
  intro s hs
  obtain ⟨i, hi, rfl⟩ := List.getElem_of_mem hs
  rw [h i hi]; simp
theorem anyL_yes {ss : List Sp} {ks : List Key} {i : Nat} (hi : i < ks.length) (h : hasL ks[i] ss = true) : anyL ss ks = true := by
  unfold anyL
  rw [List.any_eq_true]
  exact ⟨ks[i], List.getElem_mem hi, h⟩
set_option maxHeartbeats 2000000 in
set_option maxRecDepth 100000 in
theorem anyR_any (v vk : Value) (ss : List Sp) (ks : List Key) (w : World) (hs : SpansIn w v ss) (hn : ss.length ≤ 1000000) (hk : KeysIn w vk ks) (hm : ks.length ≤ 1000000) : Calls Try.prog 25 #[v, vk] w fun e w' => e = .returned (.bool (anyL ss ks)) ∧ Chg (fun _ => False) w w' := by
  have k1 : ¬ K24 = 0 := by decide
  have HS := Lib.hid hs
  have HK := Lib.hid hk
  obtain ⟨a, c, hv⟩ := hk.length
  subst hv
  clear hs hk
  generalize hlen : ks.length = n at hm HK ⊢
  have HN := Lib.hid hlen
  clear hlen
  go_enter Try.func25, Try.ntmps25
  go_wp2
  go_loopg [5] n (fun kx s5 wr => ∃ t : Nat, s5 = .int .i64 t ∧ t ≤ n ∧ n - t ≤ kx ∧ Aside (∀ i (hi : i < ks.length), i < t → hasL ks[i] ss = false) ∧ Aside (Chg (fun _ => False) w wr))
  case atStart => exact ⟨0, rfl, Nat.zero_le _, by omega, fun i hi h => by omega, Chg.refl _ _⟩
  case round =>
    obtain ⟨t, rfl, ht, hg, B, Y⟩ := hrel
    have Y : Hid (Chg (fun _ => False) w wr) := Y
    have z0 : (0 : Int) ≤ (t : Int) := by omega
    by_cases hlt : t < n
    · have z1 : (t : Int) < (n : Int) := by omega
      have htl : t < ks.length := by rw [HN.out]; exact hlt
      obtain ⟨b, off, c', e, row⟩ := HK.out.loads (by omega)
      simp only [Value.slice.injEq] at e
      obtain ⟨rfl, hnn, rfl⟩ := e
      clear hnn
      have r1 : Sem.run Try.prog (loadCellsFrom ⟨b, off + t * K24, none⟩ 0 K24 #[]) wr = .ok (keyCells ks[t]).toArray wr := (Y.out.cells (row t htl) id).load _ K24 (keyCells_length _)
      have q := Lib.hid (hasR_any ks[t] v ss wr (HS.out.chg Y.out (fun _ _ h => h)) hn)
      unfold keyV at q
      generalize hx : ks[t] = x at r1 q
      have HX := Lib.hid hx
      clear hx row
      go_wp2_with fail
      refine q.out.mono ?_
      rintro e w2 ⟨rfl, X2⟩
      have Y2 : Hid (Chg (fun _ => False) w w2) := Y.out.trans X2 (fun _ _ h => h)
      clear q r1 X2
      cases hh : hasL x ss with
      | true =>
        have R : Hid (anyL ss ks = true) := anyL_yes htl (by rw [HX.out]; exact hh)
        clear hh
        go_wp2
        go_ret
        exact ⟨by rw [R.out]; rfl, Y2.out⟩
      | false =>
        have B2 : Hid (∀ i (hi : i < ks.length), i < t + 1 → hasL ks[i] ss = false) := fun i hi h => by
          by_cases e : i = t
          · subst e; rw [HX.out]; exact hh
          · exact B.out i hi (by omega)
        clear hh
        go_wp2
        go_roundg (n - (t + 1))
        case measure => omega
        case rel => exact ⟨t + 1, by go_num, by omega, Nat.le_refl _, B2.out, Y2.out⟩
    · have z1 : ¬ (t : Int) < (n : Int) := by omega
      have R : Hid (anyL ss ks = false) := anyL_no (fun i hi => B.out i hi (by have := HN.out; omega))
      go_wp2
      go_ret
      exact ⟨by rw [R.out]; rfl, Y.out⟩
end Go.Proofs.Ytfeomnkgkppdlaa
