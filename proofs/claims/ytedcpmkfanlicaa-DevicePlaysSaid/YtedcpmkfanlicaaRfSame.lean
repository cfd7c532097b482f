/- same: a device and the reference's tell the same. -/
import Derived.Test.YtedcpmkfanlicaaRfDoes
set_option linter.unusedVariables false
set_option linter.unusedSimpArgs false
namespace Go.Proofs.Ytedcpmkfanlicaa
open Go Go.RowKit Go.Sort Go.Lib Go.Maps Go.Deep
section
variable {w : World} {L : Loc} {s : St} {m : Nat} {R : Rl} {r : Rf}
set_option maxHeartbeats 4000000 in
set_option maxRecDepth 100000 in
theorem same_any (D : DvIs w L s m) (H : RfIs w R r) (h : Sim s r m) : Calls Try.prog 28 #[.pointer (some ⟨L.p, 0, none⟩), .pointer (some ⟨R.p, 0, none⟩)] w fun e w' => e = .returned (.bool true) ∧ Chg (fun _ => False) w w' := by
  have mixed := Try.mixed
  obtain ⟨a, c, hv⟩ := owns_len H.ownL
  obtain ⟨nl, hnl⟩ : ∃ q, q = r.L.length := ⟨_, rfl⟩
  rw [← hnl] at hv
  obtain ⟨oa, oc, hv2⟩ := owns_len H.ownO
  obtain ⟨q, hq⟩ : ∃ q, q = r.lo.length := ⟨_, rfl⟩
  rw [← hq] at hv2
  have ll : s.lo.length = q := by rw [hq, h.lo, List.length_map]
  have EL := Lib.hid hv
  have HNL := Lib.hid hnl.symm
  have lenL : nl ≤ 9223372036854775807 := by have := H.lenL; unfold maxLen at this; omega
  obtain ⟨dn, hdn⟩ : ∃ b, b = s.d.down := ⟨_, rfl⟩
  obtain ⟨nn, hnn⟩ : ∃ b, b = s.d.n := ⟨_, rfl⟩
  obtain ⟨cc, hcc⟩ : ∃ b, b = s.d.calls := ⟨_, rfl⟩
  have r0 : ∀ W, Chg (fun _ => False) w W → W.cell? ⟨R.p, 0, none⟩ = some (.int .i64 nn) := fun W X => by rw [hnn, ← h.n]; exact X.cell (H.cell (j := 0) rfl).1 id
  have r3 : ∀ W, Chg (fun _ => False) w W → W.cell? ⟨R.p, 3, none⟩ = some (.bool dn) := fun W X => by rw [hdn, ← h.down]; exact X.cell (H.cell (j := 3) rfl).1 id
  have r4 : ∀ W, Chg (fun _ => False) w W → W.cell? ⟨R.p, 4, none⟩ = some (.int .i64 cc) := fun W X => by rw [hcc, ← h.calls]; exact X.cell (H.cell (j := 4) rfl).1 id
  have r2 : ∀ W, Chg (fun _ => False) w W → W.cell? ⟨R.p, 2, none⟩ = some (.slice oa q oc) := fun W X => by rw [← hv2]; exact X.cell (H.cell (j := 2) rfl).1 id
  have KB : Hid (∀ W, Chg (fun _ => False) w W → Calls Try.prog 22 #[.pointer (some ⟨L.p, 0, none⟩)] W fun e w' => e = .returned (.int .i64 nn) ∧ w' = W) := fun W X => by rw [hnn]; exact blocks_st (D.ext X)
  have KU : Hid (∀ W, Chg (fun _ => False) w W → Calls Try.prog 20 #[.pointer (some ⟨L.p, 0, none⟩)] W fun e w' => e = .returned (.bool (!dn)) ∧ w' = W) := fun W X => by rw [hdn]; exact up_st (D.ext X)
  have KL : Hid (∀ W, Chg (fun _ => False) w W → Calls Try.prog 24 #[.pointer (some ⟨L.p, 0, none⟩)] W fun e w' => e = .returned (.int .i64 (q : Int)) ∧ w' = W) := fun W X => by rw [← ll]; exact loose_st (D.ext X)
  have KC : Hid (∀ W, Chg (fun _ => False) w W → Calls Try.prog 16 #[.pointer (some ⟨L.p, 0, none⟩)] W fun e w' => e = .returned (.int .i64 cc) ∧ w' = W) := fun W X => by rw [hcc]; exact calls_st (D.ext X)
  have KD : Hid (Chg (fun _ => False) w w.drew) := (Ext.refl w).drew.chg _
  have hb : ((!dn) == dn) = false := by cases dn <;> rfl
  have D0 := Lib.hid D
  have H0 := Lib.hid H
  have SM := Lib.hid h
  clear D H h hv hv2 hnl hq ll hdn hnn hcc
  go_enter Try.func28, Try.ntmps28
  go_upto_region 1 with fail
  refine wp_region_held_drew (S := fun W => Chg (fun _ => False) w W) (by kernel_rfl) KD.out (fun hHeld => ?_)
  refine wpAnyH_take (i := 0) (oi := _) (v := ?vsm0) rfl (by kernel_rfl) (by kernel_rfl) (by kernel_rfl) (fun _ _ _ h => h) (Or.inl ⟨by rfl, ?ysm0⟩) (by assumption) ?rsm0
  case ysm0 => (intro w hSw; go_simp; try with_reducible rfl)
  (try simp only [List.getElem_toArray, List.getElem_cons_succ, List.getElem_cons_zero, Act.put, List.setIfInBounds_toArray, List.set_cons_zero, List.set_cons_succ])
  refine wpAnyH_take (i := 2) (oi := _) (v := ?vsm2) rfl (by kernel_rfl) (by kernel_rfl) (by kernel_rfl) (fun _ _ _ h => h) (Or.inl ⟨by rfl, ?ysm2⟩) (by assumption) ?rsm2
  case ysm2 => (intro w hSw; go_simp; try with_reducible rfl)
  (try simp only [List.getElem_toArray, List.getElem_cons_succ, List.getElem_cons_zero, Act.put, List.setIfInBounds_toArray, List.set_cons_zero, List.set_cons_succ])
  refine wpAnyH_take (i := 3) (oi := _) (v := ?vsm3) rfl (by kernel_rfl) (by kernel_rfl) (by kernel_rfl) (fun _ _ _ h => h) (Or.inl ⟨by rfl, ?ysm3⟩) (by assumption) ?rsm3
  case ysm3 => (intro w hSw; go_simp; try with_reducible rfl)
  (try simp only [List.getElem_toArray, List.getElem_cons_succ, List.getElem_cons_zero, Act.put, List.setIfInBounds_toArray, List.set_cons_zero, List.set_cons_succ])
  refine wpAnyH_take (i := 4) (oi := _) (v := ?vsm4) rfl (by kernel_rfl) (by kernel_rfl) (by kernel_rfl) (fun _ _ _ h => h) (Or.inl ⟨by rfl, ?ysm4⟩) (by assumption) ?rsm4
  case ysm4 => (intro w hSw; go_simp; try with_reducible rfl)
  (try simp only [List.getElem_toArray, List.getElem_cons_succ, List.getElem_cons_zero, Act.put, List.setIfInBounds_toArray, List.set_cons_zero, List.set_cons_succ])
  refine wpAnyH_take (i := 5) (oi := _) (v := ?vsm5) rfl (by kernel_rfl) (by kernel_rfl) (by kernel_rfl) (fun _ _ _ h => h) (Or.inl ⟨by rfl, ?ysm5⟩) (by assumption) ?rsm5
  case ysm5 => (intro w hSw; go_simp; try with_reducible rfl)
  (try simp only [List.getElem_toArray, List.getElem_cons_succ, List.getElem_cons_zero, Act.put, List.setIfInBounds_toArray, List.set_cons_zero, List.set_cons_succ])
  refine wpAnyH_ready (rs := [1]) (by kernel_rfl) (by simp) ?_
  refine AllReadyH.cons (o := _) rfl (fun K hK => ?_) AllReadyH.nil
  (try simp only [List.getElem_toArray, List.getElem_cons_succ, List.getElem_cons_zero])
  go_simp
  refine (KB.out _ (by assumption)).mono ?_
  rintro e wA ⟨rfl, rfl⟩
  refine hK.out _ _ ?_ (fun hHeld => ?_)
  · assumption
  clear hK K
  (try simp only [List.getElem_toArray, List.getElem_cons_succ, List.getElem_cons_zero, Act.put, List.setIfInBounds_toArray, List.set_cons_zero, List.set_cons_succ])
  refine wpAnyH_take (i := 6) (oi := _) (v := ?vsm6) rfl (by kernel_rfl) (by kernel_rfl) (by kernel_rfl) (fun _ _ _ h => h) (Or.inl ⟨by rfl, ?ysm6⟩) (by assumption) ?rsm6
  case ysm6 => (intro w hSw; go_simp; try with_reducible rfl)
  (try simp only [List.getElem_toArray, List.getElem_cons_succ, List.getElem_cons_zero, Act.put, List.setIfInBounds_toArray, List.set_cons_zero, List.set_cons_succ])
  refine wpAnyH_take (i := 7) (oi := _) (v := ?vsm7) rfl (by kernel_rfl) (by kernel_rfl) (by kernel_rfl) (fun _ _ _ h => h) (Or.inl ⟨by rfl, ?ysm7⟩) (by assumption) ?rsm7
  case ysm7 => (intro w hSw; go_simp; try with_reducible rfl)
  (try simp only [List.getElem_toArray, List.getElem_cons_succ, List.getElem_cons_zero, Act.put, List.setIfInBounds_toArray, List.set_cons_zero, List.set_cons_succ])
  refine wpAnyH_take (i := 8) (oi := _) (v := ?vsm8) rfl (by kernel_rfl) (by kernel_rfl) (by kernel_rfl) (fun _ _ _ h => h) (Or.inl ⟨by rfl, ?ysm8⟩) (by assumption) ?rsm8
  case ysm8 => (intro w hSw; go_simp; try with_reducible rfl)
  (try simp only [List.getElem_toArray, List.getElem_cons_succ, List.getElem_cons_zero, Act.put, List.setIfInBounds_toArray, List.set_cons_zero, List.set_cons_succ])
  refine wpAnyH_take (i := 10) (oi := _) (v := ?vsm10) rfl (by kernel_rfl) (by kernel_rfl) (by kernel_rfl) (fun _ _ _ h => h) (Or.inl ⟨by rfl, ?ysm10⟩) (by assumption) ?rsm10
  case ysm10 => (intro w hSw; go_simp; try with_reducible rfl)
  (try simp only [List.getElem_toArray, List.getElem_cons_succ, List.getElem_cons_zero, Act.put, List.setIfInBounds_toArray, List.set_cons_zero, List.set_cons_succ])
  refine wpAnyH_take (i := 11) (oi := _) (v := ?vsm11) rfl (by kernel_rfl) (by kernel_rfl) (by kernel_rfl) (fun _ _ _ h => h) (Or.inl ⟨by rfl, ?ysm11⟩) (by assumption) ?rsm11
  case ysm11 => (intro w hSw; go_simp; try with_reducible rfl)
  (try simp only [List.getElem_toArray, List.getElem_cons_succ, List.getElem_cons_zero, Act.put, List.setIfInBounds_toArray, List.set_cons_zero, List.set_cons_succ])
  refine wpAnyH_take (i := 12) (oi := _) (v := ?vsm12) rfl (by kernel_rfl) (by kernel_rfl) (by kernel_rfl) (fun _ _ _ h => h) (Or.inl ⟨by rfl, ?ysm12⟩) (by assumption) ?rsm12
  case ysm12 => (intro w hSw; go_simp; try with_reducible rfl)
  (try simp only [List.getElem_toArray, List.getElem_cons_succ, List.getElem_cons_zero, Act.put, List.setIfInBounds_toArray, List.set_cons_zero, List.set_cons_succ])
  refine wpAnyH_take (i := 13) (oi := _) (v := ?vsm13) rfl (by kernel_rfl) (by kernel_rfl) (by kernel_rfl) (fun _ _ _ h => h) (Or.inl ⟨by rfl, ?ysm13⟩) (by assumption) ?rsm13
  case ysm13 => (intro w hSw; go_simp; try with_reducible rfl)
  (try simp only [List.getElem_toArray, List.getElem_cons_succ, List.getElem_cons_zero, Act.put, List.setIfInBounds_toArray, List.set_cons_zero, List.set_cons_succ])
  refine wpAnyH_ready (rs := [9]) (by kernel_rfl) (by simp) ?_
  refine AllReadyH.cons (o := _) rfl (fun K hK => ?_) AllReadyH.nil
  (try simp only [List.getElem_toArray, List.getElem_cons_succ, List.getElem_cons_zero])
  go_simp
  refine (KU.out _ (by assumption)).mono ?_
  rintro e wA ⟨rfl, rfl⟩
  refine hK.out _ _ ?_ (fun hHeld => ?_)
  · assumption
  clear hK K
  (try simp only [List.getElem_toArray, List.getElem_cons_succ, List.getElem_cons_zero, Act.put, List.setIfInBounds_toArray, List.set_cons_zero, List.set_cons_succ])
  refine wpAnyH_take (i := 14) (oi := _) (v := ?vsm14) rfl (by kernel_rfl) (by kernel_rfl) (by kernel_rfl) (fun _ _ _ h => h) (Or.inl ⟨by rfl, ?ysm14⟩) (by assumption) ?rsm14
  case ysm14 => (intro w hSw; go_simp; try with_reducible rfl)
  (try simp only [List.getElem_toArray, List.getElem_cons_succ, List.getElem_cons_zero, Act.put, List.setIfInBounds_toArray, List.set_cons_zero, List.set_cons_succ])
  refine wpAnyH_take (i := 15) (oi := _) (v := ?vsm15) rfl (by kernel_rfl) (by kernel_rfl) (by kernel_rfl) (fun _ _ _ h => h) (Or.inl ⟨by rfl, ?ysm15⟩) (by assumption) ?rsm15
  case ysm15 => (intro w hSw; go_simp; try with_reducible rfl)
  (try simp only [List.getElem_toArray, List.getElem_cons_succ, List.getElem_cons_zero, Act.put, List.setIfInBounds_toArray, List.set_cons_zero, List.set_cons_succ])
  refine wpAnyH_take (i := 16) (oi := _) (v := ?vsm16) rfl (by kernel_rfl) (by kernel_rfl) (by kernel_rfl) (fun _ _ _ h => h) (Or.inl ⟨by rfl, ?ysm16⟩) (by assumption) ?rsm16
  case ysm16 => (intro w hSw; go_simp; try with_reducible rfl)
  (try simp only [List.getElem_toArray, List.getElem_cons_succ, List.getElem_cons_zero, Act.put, List.setIfInBounds_toArray, List.set_cons_zero, List.set_cons_succ])
  refine wpAnyH_take (i := 17) (oi := _) (v := ?vsm17) rfl (by kernel_rfl) (by kernel_rfl) (by kernel_rfl) (fun _ _ _ h => h) (Or.inl ⟨by rfl, ?ysm17⟩) (by assumption) ?rsm17
  case ysm17 => (intro w hSw; go_simp; try with_reducible rfl)
  (try simp only [List.getElem_toArray, List.getElem_cons_succ, List.getElem_cons_zero, Act.put, List.setIfInBounds_toArray, List.set_cons_zero, List.set_cons_succ])
  refine wpAnyH_take (i := 19) (oi := _) (v := ?vsm19) rfl (by kernel_rfl) (by kernel_rfl) (by kernel_rfl) (fun _ _ _ h => h) (Or.inl ⟨by rfl, ?ysm19⟩) (by assumption) ?rsm19
  case ysm19 => (intro w hSw; go_simp; try with_reducible rfl)
  (try simp only [List.getElem_toArray, List.getElem_cons_succ, List.getElem_cons_zero, Act.put, List.setIfInBounds_toArray, List.set_cons_zero, List.set_cons_succ])
  refine wpAnyH_take (i := 20) (oi := _) (v := ?vsm20) rfl (by kernel_rfl) (by kernel_rfl) (by kernel_rfl) (fun _ _ _ h => h) (Or.inl ⟨by rfl, ?ysm20⟩) (by assumption) ?rsm20
  case ysm20 => (intro w hSw; go_simp; try with_reducible rfl)
  (try simp only [List.getElem_toArray, List.getElem_cons_succ, List.getElem_cons_zero, Act.put, List.setIfInBounds_toArray, List.set_cons_zero, List.set_cons_succ])
  refine wpAnyH_take (i := 21) (oi := _) (v := ?vsm21) rfl (by kernel_rfl) (by kernel_rfl) (by kernel_rfl) (fun _ _ _ h => h) (Or.inl ⟨by rfl, ?ysm21⟩) (by assumption) ?rsm21
  case ysm21 => (intro w hSw; go_simp; try with_reducible rfl)
  (try simp only [List.getElem_toArray, List.getElem_cons_succ, List.getElem_cons_zero, Act.put, List.setIfInBounds_toArray, List.set_cons_zero, List.set_cons_succ])
  refine wpAnyH_take (i := 22) (oi := _) (v := ?vsm22) rfl (by kernel_rfl) (by kernel_rfl) (by kernel_rfl) (fun _ _ _ h => h) (Or.inl ⟨by rfl, ?ysm22⟩) (by assumption) ?rsm22
  case ysm22 => (intro w hSw; go_simp; try with_reducible rfl)
  (try simp only [List.getElem_toArray, List.getElem_cons_succ, List.getElem_cons_zero, Act.put, List.setIfInBounds_toArray, List.set_cons_zero, List.set_cons_succ])
  refine wpAnyH_take (i := 23) (oi := _) (v := ?vsm23) rfl (by kernel_rfl) (by kernel_rfl) (by kernel_rfl) (fun _ _ _ h => h) (Or.inl ⟨by rfl, ?ysm23⟩) (by assumption) ?rsm23
  case ysm23 => (intro w hSw; go_simp; try with_reducible rfl)
  (try simp only [List.getElem_toArray, List.getElem_cons_succ, List.getElem_cons_zero, Act.put, List.setIfInBounds_toArray, List.set_cons_zero, List.set_cons_succ])
  refine wpAnyH_ready (rs := [18]) (by kernel_rfl) (by simp) ?_
  refine AllReadyH.cons (o := _) rfl (fun K hK => ?_) AllReadyH.nil
  (try simp only [List.getElem_toArray, List.getElem_cons_succ, List.getElem_cons_zero])
  go_simp
  refine (KL.out _ (by assumption)).mono ?_
  rintro e wA ⟨rfl, rfl⟩
  refine hK.out _ _ ?_ (fun hHeld => ?_)
  · assumption
  clear hK K
  (try simp only [List.getElem_toArray, List.getElem_cons_succ, List.getElem_cons_zero, Act.put, List.setIfInBounds_toArray, List.set_cons_zero, List.set_cons_succ])
  refine wpAnyH_take (i := 24) (oi := _) (v := ?vsm24) rfl (by kernel_rfl) (by kernel_rfl) (by kernel_rfl) (fun _ _ _ h => h) (Or.inl ⟨by rfl, ?ysm24⟩) (by assumption) ?rsm24
  case ysm24 => (intro w hSw; go_simp; try with_reducible rfl)
  (try simp only [List.getElem_toArray, List.getElem_cons_succ, List.getElem_cons_zero, Act.put, List.setIfInBounds_toArray, List.set_cons_zero, List.set_cons_succ])
  refine wpAnyH_take (i := 25) (oi := _) (v := ?vsm25) rfl (by kernel_rfl) (by kernel_rfl) (by kernel_rfl) (fun _ _ _ h => h) (Or.inl ⟨by rfl, ?ysm25⟩) (by assumption) ?rsm25
  case ysm25 => (intro w hSw; go_simp; try with_reducible rfl)
  (try simp only [List.getElem_toArray, List.getElem_cons_succ, List.getElem_cons_zero, Act.put, List.setIfInBounds_toArray, List.set_cons_zero, List.set_cons_succ])
  refine wpAnyH_take (i := 26) (oi := _) (v := ?vsm26) rfl (by kernel_rfl) (by kernel_rfl) (by kernel_rfl) (fun _ _ _ h => h) (Or.inl ⟨by rfl, ?ysm26⟩) (by assumption) ?rsm26
  case ysm26 => (intro w hSw; go_simp; try with_reducible rfl)
  (try simp only [List.getElem_toArray, List.getElem_cons_succ, List.getElem_cons_zero, Act.put, List.setIfInBounds_toArray, List.set_cons_zero, List.set_cons_succ])
  refine wpAnyH_take (i := 27) (oi := _) (v := ?vsm27) rfl (by kernel_rfl) (by kernel_rfl) (by kernel_rfl) (fun _ _ _ h => h) (Or.inl ⟨by rfl, ?ysm27⟩) (by assumption) ?rsm27
  case ysm27 => (intro w hSw; go_simp; try with_reducible rfl)
  (try simp only [List.getElem_toArray, List.getElem_cons_succ, List.getElem_cons_zero, Act.put, List.setIfInBounds_toArray, List.set_cons_zero, List.set_cons_succ])
  refine wpAnyH_take (i := 29) (oi := _) (v := ?vsm29) rfl (by kernel_rfl) (by kernel_rfl) (by kernel_rfl) (fun _ _ _ h => h) (Or.inl ⟨by rfl, ?ysm29⟩) (by assumption) ?rsm29
  case ysm29 => (intro w hSw; go_simp; try with_reducible rfl)
  (try simp only [List.getElem_toArray, List.getElem_cons_succ, List.getElem_cons_zero, Act.put, List.setIfInBounds_toArray, List.set_cons_zero, List.set_cons_succ])
  refine wpAnyH_take (i := 30) (oi := _) (v := ?vsm30) rfl (by kernel_rfl) (by kernel_rfl) (by kernel_rfl) (fun _ _ _ h => h) (Or.inl ⟨by rfl, ?ysm30⟩) (by assumption) ?rsm30
  case ysm30 => (intro w hSw; go_simp; try with_reducible rfl)
  (try simp only [List.getElem_toArray, List.getElem_cons_succ, List.getElem_cons_zero, Act.put, List.setIfInBounds_toArray, List.set_cons_zero, List.set_cons_succ])
  refine wpAnyH_take (i := 31) (oi := _) (v := ?vsm31) rfl (by kernel_rfl) (by kernel_rfl) (by kernel_rfl) (fun _ _ _ h => h) (Or.inl ⟨by rfl, ?ysm31⟩) (by assumption) ?rsm31
  case ysm31 => (intro w hSw; go_simp; try with_reducible rfl)
  (try simp only [List.getElem_toArray, List.getElem_cons_succ, List.getElem_cons_zero, Act.put, List.setIfInBounds_toArray, List.set_cons_zero, List.set_cons_succ])
  refine wpAnyH_take (i := 32) (oi := _) (v := ?vsm32) rfl (by kernel_rfl) (by kernel_rfl) (by kernel_rfl) (fun _ _ _ h => h) (Or.inl ⟨by rfl, ?ysm32⟩) (by assumption) ?rsm32
  case ysm32 => (intro w hSw; go_simp; try with_reducible rfl)
  (try simp only [List.getElem_toArray, List.getElem_cons_succ, List.getElem_cons_zero, Act.put, List.setIfInBounds_toArray, List.set_cons_zero, List.set_cons_succ])
  refine wpAnyH_ready (rs := [28]) (by kernel_rfl) (by simp) ?_
  refine AllReadyH.cons (o := _) rfl (fun K hK => ?_) AllReadyH.nil
  (try simp only [List.getElem_toArray, List.getElem_cons_succ, List.getElem_cons_zero])
  go_simp
  refine (KC.out _ (by assumption)).mono ?_
  rintro e wA ⟨rfl, rfl⟩
  refine hK.out _ _ ?_ (fun hHeld => ?_)
  · assumption
  clear hK K
  (try simp only [List.getElem_toArray, List.getElem_cons_succ, List.getElem_cons_zero, Act.put, List.setIfInBounds_toArray, List.set_cons_zero, List.set_cons_succ])
  refine wpAnyH_take (i := 33) (oi := _) (v := ?vsm33) rfl (by kernel_rfl) (by kernel_rfl) (by kernel_rfl) (fun _ _ _ h => h) (Or.inl ⟨by rfl, ?ysm33⟩) (by assumption) ?rsm33
  case ysm33 => (intro w hSw; go_simp; try with_reducible rfl)
  (try simp only [List.getElem_toArray, List.getElem_cons_succ, List.getElem_cons_zero, Act.put, List.setIfInBounds_toArray, List.set_cons_zero, List.set_cons_succ])
  refine wpAnyH_take (i := 34) (oi := _) (v := ?vsm34) rfl (by kernel_rfl) (by kernel_rfl) (by kernel_rfl) (fun _ _ _ h => h) (Or.inl ⟨by rfl, ?ysm34⟩) (by assumption) ?rsm34
  case ysm34 => (intro w hSw; go_simp; try with_reducible rfl)
  (try simp only [List.getElem_toArray, List.getElem_cons_succ, List.getElem_cons_zero, Act.put, List.setIfInBounds_toArray, List.set_cons_zero, List.set_cons_succ])
  refine wpAnyH_done (by kernel_rfl) ?_ _
  obtain ⟨w1, hw1⟩ : ∃ W, W = w.drew := ⟨_, rfl⟩
  rw [← hw1]
  have X1 : Hid (Chg (fun _ => False) w w1) := by show Chg _ _ _; rw [hw1]; exact KD.out
  clear hw1 KD KB KU KL KC r0 r2 r3 r4 hb hHeld
  go_upto_block 0 with fail
  go_cut [5] (fun s5 wx => Aside (Chg (fun _ => False) w wx))
  case first =>
    go_wp2
    go_loopg [5] 11 (fun kx s5 wr => ∃ t : Nat, s5 = .int .i64 ((t : Int) - 1) ∧ t ≤ 11 ∧ 11 - t ≤ kx ∧ Aside (Chg (fun _ => False) w wr))
    case atStart => exact ⟨0, rfl, by omega, by omega, X1.out⟩
    case round =>
      clear X1
      obtain ⟨t, rfl, ht, hg, Y⟩ := hrel
      have Y : Hid (Chg (fun _ => False) w wr) := Y
      by_cases hlt : t < 11
      · have z1 : (t : Int) - 1 < 10 := by omega
        have e1 : IntKind.i64.wrap ((t : Int) - 1 + 1) = (t : Int) := by rw [show (t : Int) - 1 + 1 = (t : Int) by omega]; exact wrap_in _ _ (by omega) (by omega) rfl
        have e2 : (t : Int) - 1 + 1 = (t : Int) := by omega
        have q1 := Lib.hid (reads_any (D0.out.ext Y.out) (H0.out.ext Y.out) SM.out ((t : Int) - 1))
        go_wp2_with fail
        refine q1.out.mono ?_
        rintro e w2 ⟨rfl, X2⟩
        have Y : Hid (Chg (fun _ => False) w w2) := Y.out.trans X2 (fun _ _ h => h)
        clear q1 X2
        go_wp2
        go_roundg (11 - (t + 1))
        case measure => omega
        case rel => exact ⟨t + 1, by (try congr 1); push_cast; omega, by omega, Nat.le_refl _, Y.out⟩
      · have z1 : ¬ (t : Int) - 1 < 10 := by omega
        go_wp2_with fail
        go_meet
        exact Y.out
  case rest =>
    have X1 : Hid (Chg (fun _ => False) w wc) := hcut
    clear hcut
    go_wp2
    go_loopg [7] nl (fun kx s7 wr => ∃ t : Nat, s7 = .int .i64 t ∧ t ≤ nl ∧ nl - t ≤ kx ∧ Aside (Chg (fun _ => False) w wr))
    case atStart => exact ⟨0, rfl, Nat.zero_le _, by omega, X1.out⟩
    case round =>
      clear X1
      obtain ⟨t, rfl, ht, hg, Y⟩ := hrel
      have Y : Hid (Chg (fun _ => False) w wr) := Y
      have z0 : (0 : Int) ≤ (t : Int) := by omega
      have H1 := H0.out.ext Y.out
      have c1 : wr.cell? ⟨R.p, 1, none⟩ = some (.slice a nl c) := by have := (H1.cell (j := 1) rfl).1; rw [EL.out] at this; exact this
      by_cases hlt : t < nl
      · have z1 : (t : Int) < (nl : Int) := by omega
        have oL : wr.ownsRow 0 80 3 (.slice a nl c) r.L.length (flat rbCells r.L) := by have := H1.ownL; rw [EL.out] at this; exact this
        obtain ⟨g, rfl, x0, x1, x2, fz⟩ := ownL_get oL t (by rw [HNL.out]; exact hlt)
        generalize (r.L[t]'(by rw [HNL.out]; exact hlt)).k = k at x0
        have q1 := Lib.hid (reads_any (D0.out.ext Y.out) (H0.out.ext Y.out) SM.out k)
        clear x1 x2 fz oL H1
        go_wp2_with fail
        refine q1.out.mono ?_
        rintro e w2 ⟨rfl, X2⟩
        have Y : Hid (Chg (fun _ => False) w w2) := Y.out.trans X2 (fun _ _ h => h)
        clear q1 X2 c1 x0
        go_wp2
        go_roundg (nl - (t + 1))
        case measure => omega
        case rel => exact ⟨t + 1, by go_num, by omega, Nat.le_refl _, Y.out⟩
      · obtain rfl : t = nl := by omega
        have z1 : ¬ (t : Int) < (t : Int) := by omega
        clear H1
        go_wp2
        go_ret
        exact ⟨rfl, Y.out⟩
end
end Go.Proofs.Ytedcpmkfanlicaa
