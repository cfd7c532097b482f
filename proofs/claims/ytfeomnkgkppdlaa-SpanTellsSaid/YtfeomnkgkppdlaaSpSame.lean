/- wainscotref08.Same by its contract. -/
import Derived.Test.YtfeomnkgkppdlaaSpEq
import Derived.Deep.QuietTactic
import Derived.BigQuiet
set_option linter.unusedVariables false
set_option linter.unusedSimpArgs false
namespace Go.Proofs.Ytfeomnkgkppdlaa
open Go Go.RowKit Go.Sort Go.Lib
attribute [local go_sem ↓] run_size24 run_size49 run_size25
attribute [local simp high] run_size24x run_size49x run_size25x
attribute [local go_sem ↓] to_span1 to_span2 to_span3 to_key1 to_spans1 to_keys1 to_bd0 to_bd1
attribute [local simp] is_bFrEn is_bTo is_bEn is_bFrTo is_bSpans1 is_bKeys1 run_bFrEn run_bTo run_bEn run_bFrTo run_bSpans1 run_bKeys1 is_bBdKey is_bBdEn is_bSp3 run_bBdKey run_bBdEn run_bBd0 run_bSp3

theorem retB {a b : Bool} (h : a = b) : Ending.returned (.bool a) = .returned (.bool b) := by rw [h]
set_option maxHeartbeats 1000000 in
theorem same_of (va vb : Value) (xa xb : List Sp) (w : World) (ha : SpansIn w va xa) (hb : SpansIn w vb xb) (hla : xa.length ≤ 1000000) (hlb : xb.length ≤ 1000000) :
    Calls Try.prog 14 #[va, vb] w fun e w' => e = .returned (.bool (decide (xa = xb))) ∧ Chg (fun _ => False) w w' := by
  have mixed := Try.mixed
  have k1 : ¬ K24 = 0 := by decide
  have k2 : ¬ K49 = 0 := by decide
  have hgd : Try.prog.eqGuardType Try.prog.depth 28 = false := by kernel_rfl
  have eqs := fun a b w => run_eq_span a b w
  have HA := Lib.hid ha
  have HB := Lib.hid hb
  obtain ⟨a1, c1, rfl⟩ := ha.length
  obtain ⟨a2, c2, rfl⟩ := hb.length
  clear ha hb
  generalize hn : xa.length = n at hla HA ⊢
  generalize hm : xb.length = m at hlb HB ⊢
  have HN := Lib.hid hn
  have HM := Lib.hid hm
  clear hn hm
  go_enter Try.func14, Try.ntmps14
  by_cases hnm : n = m
  · subst hnm
    go_wp2
    go_loopg [5] n (fun kx s5 wr => ∃ i : Nat, s5 = .int .i64 i ∧ i ≤ n ∧ n - i ≤ kx ∧ Aside (∀ j (h : j < xa.length) (h' : j < xb.length), j < i → xa[j] = xb[j]) ∧ Aside (Ext w wr))
    case atStart => exact ⟨0, rfl, Nat.zero_le _, by omega, fun j h h' hj => absurd hj (by omega), Ext.refl _⟩
    case round =>
      obtain ⟨i, rfl, hin, hg, A, Y⟩ := hrel
      by_cases hlt : i < n
      · have hia : i < xa.length := by have := HN.out; omega
        have hib : i < xb.length := by have := HM.out; omega
        obtain ⟨b1, o1, d1, e1, L1⟩ := HA.out.loads (by omega)
        obtain ⟨b2, o2, d2, e2, L2⟩ := HB.out.loads (by omega)
        simp only [Value.slice.injEq] at e1 e2
        obtain ⟨rfl, h1, rfl⟩ := e1
        obtain ⟨rfl, h2, rfl⟩ := e2
        clear h1 h2
        have z1 : (i : Int) < (n : Int) := by omega
        obtain ⟨x, hx⟩ : ∃ x, x = xa[i] := ⟨_, rfl⟩
        obtain ⟨y, hy⟩ : ∃ y, y = xb[i] := ⟨_, rfl⟩
        have l1 : ∀ n', Sem.run Try.prog (loadCellsFrom ⟨b1, o1 + i * K49, none⟩ 0 K49 #[]) (wr.drewN n') = .ok (spanCells x).toArray (wr.drewN n') := fun n' => by rw [hx]; exact ((Y.out.drewN n').cells (L1 i hia)).load _ K49 (spanCells_length _)
        have l2 : ∀ n', Sem.run Try.prog (loadCellsFrom ⟨b2, o2 + i * K49, none⟩ 0 K49 #[]) (wr.drewN n') = .ok (spanCells y).toArray (wr.drewN n') := fun n' => by rw [hy]; exact ((Y.out.drewN n').cells (L2 i hib)).load _ K49 (spanCells_length _)
        have EX := Lib.hid hx
        have EY := Lib.hid hy
        clear hx hy L1 L2
        go_wp2
        go_quiet (fail)
        cases hxy : decide (x = y) with
        | true =>
          have hxy' := Lib.hid (of_decide_eq_true hxy)
          go_wp2
          go_roundg (n - (i + 1))
          case measure => omega
          case rel =>
            refine ⟨i + 1, by go_num, by omega, Nat.le_refl _, fun j h h' hj => ?_, Y.out.drewN nq⟩
            by_cases e : j = i
            · subst e; rw [← EX.out, ← EY.out]; exact hxy'.out
            · exact A.out j h h' (by omega)
        | false =>
          have R : Hid (decide (xa = xb) = false) := by
            show _ = _
            rw [decide_eq_false_iff_not] at hxy ⊢
            intro e
            subst e
            exact hxy (by rw [EX.out, EY.out])
          go_wp2
          go_ret
          exact ⟨retB R.out.symm, (Y.out.drewN nq).chg _⟩
      · have R : Hid (decide (xa = xb) = true) := by
          show _ = _
          rw [decide_eq_true_iff]
          exact List.ext_getElem (by rw [HN.out, HM.out]) (fun j h h' => A.out j h h' (by have := HN.out; omega))
        go_wp2
        go_ret
        exact ⟨retB R.out.symm, Y.out.chg _⟩
  · have R : Hid (decide (xa = xb) = false) := by
      show _ = _
      rw [decide_eq_false_iff_not]
      intro e
      subst e
      exact hnm (by rw [← HN.out, ← HM.out])
    have z : ¬ ((n : Int) = (m : Int)) := by omega
    go_wp2
    go_ret
    exact ⟨retB R.out.symm, Chg.refl _ _⟩
end Go.Proofs.Ytfeomnkgkppdlaa
