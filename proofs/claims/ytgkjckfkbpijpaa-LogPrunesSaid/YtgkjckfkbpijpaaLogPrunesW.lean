/- The walk of LogPrunes. -/
import Derived.Test.YtgkjckfkbpijpaaLogTwo
set_option linter.unusedVariables false
set_option linter.unusedSimpArgs false
namespace Go.Proofs.Ytgkjckfkbpijpaa
open Go Go.RowKit Go.Sort Go.Lib
attribute [local go_sem ↓] run_size24 run_size49
attribute [local simp high] run_size24x run_size49x

theorem since_low2 (x : Int) (k : Nat) : ∃ q : Nat, (bits .and .i64 x 65535).tmod (2 * (k : Int) + 5) = (q : Int) := by
  have h0 : 0 ≤ bits .and .i64 x 65535 := by rw [bits_low]; omega
  have h1 := Int.tmod_nonneg (2 * (k : Int) + 5) h0
  exact ⟨((bits .and .i64 x 65535).tmod (2 * (k : Int) + 5)).toNat, by omega⟩
theorem min_facts (o k : Nat) : 0 ≤ min (o : Int) (2 * (k : Int)) ∧ min (o : Int) (2 * (k : Int)) ≤ 2 * (k : Int) := by omega
theorem KeysIn.low {w w' : World} {p : Nat} {v : Value} {ks : List Key} (h : KeysIn w v ks) (X : Chg (fun j => p ≤ j) w w') (hp : w.heap.size ≤ p) : KeysIn w' v ks := by
  obtain ⟨a, c, e, h⟩ := h
  exact ⟨a, c, e, fun hq => let ⟨b, o, e, hr⟩ := h hq; ⟨b, o, e, fun j hj => X.cells (hr j hj) (by have := (hr j hj).lt (keyCells_ne _); omega)⟩⟩
theorem ends_two {w : World} {p q : Nat} {n o : Int} (h : Pruned w p q n o) :
    Calls Try.prog 13 #[.pointer (some ⟨q, 0, none⟩)] w (fun e w' => e = .returned (.int .i64 o) ∧ w = w') ∧ Calls Try.prog 14 #[.pointer (some ⟨q, 0, none⟩)] w (fun e w' => e = .returned (.int .i64 n) ∧ w = w') ∧
    Calls Try.prog 13 #[.pointer (some ⟨p, 0, none⟩)] w (fun e w' => e = .returned (.int .i64 0) ∧ w = w') ∧
    Calls Try.prog 9 #[.pointer (some ⟨q, 0, none⟩), .int .i64 n, .slice none 0 0] w (fun e w' => e = .returned (.int .i64 1) ∧ w = w') ∧
    Calls Try.prog 9 #[.pointer (some ⟨q, 0, none⟩), .int .i64 (n + 1), .slice none 0 0] w (fun e w' => e = .returned (.int .i64 0) ∧ Chg (fun j => p ≤ j) w w') := by
  obtain ⟨csa, va, csb, vb, m, ha, hb, hm, ga, gb, sa, sb, hsame, hl⟩ := h
  refine ⟨floor_any w p q vb _ n o hb, last_any w p q vb _ n o hb, floor_any w p p va _ n 0 ha, add_arg w p q vb _ n o n _ hb (by omega), ?_⟩
  refine (add_ok w p q vb _ n o (n + 1) (.slice none 0 0) [] hb (by omega) ⟨none, 0, rfl, fun h => absurd h (by simp)⟩ (by simp) (by rw [List.length_drop]; omega)).mono ?_
  rintro e w' ⟨rfl, v', sl', ks', hp, hl', hx, hn⟩
  refine ⟨rfl, hx.mono ?_⟩
  rintro j hj (rfl | h)
  · exact hb.low
  · exact (hb.own.lt j h).1

set_option maxHeartbeats 4000000 in
set_option maxRecDepth 100000 in
theorem logPrunes_any (w : World) (ca : Option Addr) (ccap : Nat) (cvs : List Value) (kss : List (List Key)) (aa : Option Addr) (acap : Nat) (xa : List Sp) (since : Int)
    (hc : 0 < kss.length → ∃ b off, ca = some ⟨b, off, none⟩ ∧ ComsIn w b off cvs kss) (hb : kss.length ≤ 9223372036854775807)
    (ha : 0 < xa.length → ∃ b o, aa = some ⟨b, o, none⟩ ∧ RowAt spanCells K49 w b o xa) (hac : xa.length ≤ acap) :
    Calls Try.prog 4 #[.slice ca kss.length ccap, .slice aa xa.length acap, .int .i64 since] w fun e w' => e = .returned (.bool true) ∧ Below w.heap.size w w' := by
  have k1 : ¬ K24 = 0 := by decide
  have k2 : ¬ K49 = 0 := by decide
  have HC := Lib.hid hc
  have SA := Lib.hid (spansIn_take (c := acap) ha 10)
  have cutA := cut10 aa xa.length acap hac
  have LA : Hid ((xa.take 10).length = min xa.length 10 ∧ min xa.length 10 ≤ 10) := ⟨by rw [List.length_take, Nat.min_comm], by omega⟩
  clear hc ha hac
  generalize hlen : kss.length = n at hb ⊢
  have HN := Lib.hid hlen
  clear hlen
  generalize xa.take 10 = xs at SA LA
  generalize xa.length = la at cutA SA LA ⊢
  generalize min la 10 = na at cutA SA LA
  go_enter Try.func4, Try.ntmps4
  go_wp2_with fail
  refine (shown_any _).mono ?_
  rintro e w1 ⟨rfl, X1⟩
  have X1 := Lib.hid X1
  go_wp2_with fail
  refine (new_any 0 w1).mono ?_
  rintro e w2 ⟨rfl, X2, A2⟩
  have X2 := Lib.hid X2
  have A2 := Lib.hid A2
  go_wp2_with fail
  refine (new_any 0 w2).mono ?_
  rintro e w3 ⟨rfl, X3, B3⟩
  have Y3 : Hid (Chg (fun _ => False) w w3) := (X1.out.trans (X2.out.chg _) (fun _ _ h => h)).trans (X3.chg _) (fun _ _ h => h)
  have T3 : Hid (Two w3 w1.heap.size w2.heap.size 0) := two_new A2.out.lt (A2.out.ext X3) B3
  have HP : Hid (w.heap.size ≤ w1.heap.size) := X1.out.size
  clear X1 X2 X3 A2 B3
  generalize w1.heap.size = p at T3 HP ⊢
  generalize w2.heap.size = q at T3 ⊢
  go_upto_block 0 with fail
  go_cut [10, 11] (fun s10 s11 wx => ∃ k : Nat, s10 = .int .i64 (2 * (k : Int)) ∧ k ≤ 30 ∧ Aside (Chg (fun j => p ≤ j) w wx) ∧ Aside (Two wx p q k))
  case rest =>
    clear T3 Y3
    obtain ⟨k, rfl, hk30, X, T⟩ := hcut
    obtain ⟨o, ho⟩ := since_low2 since k
    have pr := Lib.hid (prune_two (o := o) T.out hk30)
    have SA2 : Hid (SpansIn wc (.slice aa na acap) xs) := spansIn_chg SA.out X.out (fun i hi => by have := HP.out; omega)
    go_wp2_with fail
    refine pr.out.mono ?_
    rintro e w4 ⟨rfl, P4, X4⟩
    have P4 := Lib.hid P4
    have X4 : Hid (Chg (fun j => p ≤ j) w w4) := X.out.trans X4 (fun _ _ h => h)
    have SA4 : Hid (SpansIn w4 (.slice aa na acap) xs) := spansIn_chg SA.out X4.out (fun i hi => by have := HP.out; omega)
    clear pr X T SA2
    have EN := Lib.hid (min_facts o k)
    generalize hfl : min (o : Int) (2 * (k : Int)) = fl at EN P4
    go_wp2
    go_loopg [14] (2 * k + 1) (fun kx s14 wr => ∃ j : Nat, s14 = .int .i64 j ∧ j ≤ 2 * k + 1 ∧ 2 * k + 1 - j ≤ kx ∧ Aside (Ext w4 wr))
    case atStart => exact ⟨0, rfl, Nat.zero_le _, by omega, Ext.refl _⟩
    case round =>
      obtain ⟨j, rfl, hjk, hg, Y⟩ := hrel
      have PR := Lib.hid (P4.out.ext Y.out)
      by_cases hlt : j ≤ 2 * k
      · have z1 : (j : Int) ≤ 2 * (k : Int) := by omega
        obtain ⟨r, q1, q2⟩ := conf_first PR.out (Int.natCast_nonneg j) z1 (spansIn_ext SA4.out Y.out) (by have := LA.out; omega)
        have q1 := Lib.hid q1
        have q2 := Lib.hid q2
        go_wp2_with fail
        refine q1.out.mono ?_
        rintro e w5 ⟨rfl, Z5⟩
        have Z5 := Lib.hid Z5
        clear q1
        by_cases hf : (j : Int) < fl
        · have q3 := Lib.hid (conf_below (sv := .slice aa na acap) (PR.out.ext Z5.out) z1 hf)
          go_wp2_with fail
          refine q3.out.mono ?_
          rintro e w6 ⟨rfl, rfl⟩
          clear q3 q2
          go_wp2
          go_roundg (2 * k + 1 - (j + 1))
          case measure => omega
          case rel => exact ⟨j + 1, by go_num, by omega, Nat.le_refl _, Y.out.trans Z5.out⟩
        · have q3 := Lib.hid (q2.out w5 Z5.out (by omega))
          go_wp2_with fail
          refine q3.out.mono ?_
          rintro e w6 ⟨rfl, Z6⟩
          have Z6 := Lib.hid Z6
          clear q3 q2
          cases r <;>
            (go_wp2
             go_roundg (2 * k + 1 - (j + 1))
             case measure => omega
             case rel => exact ⟨j + 1, by go_num, by omega, Nat.le_refl _, (Y.out.trans Z5.out).trans Z6.out⟩)
      · obtain rfl : j = 2 * k + 1 := by omega
        have hz : ¬ (2 * (k : Int) + 1 ≤ 2 * (k : Int)) := by omega
        obtain ⟨e1, e2, e3, e4, e5⟩ := ends_two PR.out
        have e1 := Lib.hid e1
        have e2 := Lib.hid e2
        have e3 := Lib.hid e3
        have e4 := Lib.hid e4
        have e5 := Lib.hid e5
        go_wp2_with fail
        refine e1.out.mono ?_
        rintro e w5 ⟨rfl, rfl⟩
        go_wp2_with fail
        refine e2.out.mono ?_
        rintro e w5 ⟨rfl, rfl⟩
        go_wp2_with fail
        refine e3.out.mono ?_
        rintro e w5 ⟨rfl, rfl⟩
        go_wp2_with fail
        refine e4.out.mono ?_
        rintro e w5 ⟨rfl, rfl⟩
        go_wp2_with fail
        refine e5.out.mono ?_
        rintro e w5 ⟨rfl, Z5⟩
        have C : Hid (Below w.heap.size w w5) := by
          have C : Chg (fun j => p ≤ j) w w5 := (X4.out.trans (Y.out.chg fun _ => False) (fun _ _ h => h.elim)).trans Z5 (fun _ _ h => h)
          exact C.below (Nat.le_refl _) (fun i hi h => by have := HP.out; omega)
        go_wp2
        go_ret
        exact ⟨rfl, C.out⟩
  go_wp2
  go_loopg [10, 11] 30 (fun kx s10 s11 wr => ∃ i : Nat, s10 = .int .i64 (2 * (i : Int)) ∧ s11 = .int .i64 i ∧ i ≤ n ∧ i ≤ 30 ∧ 30 - i ≤ kx ∧ Aside (Chg (fun j => p ≤ j) w wr) ∧ Aside (Two wr p q i))
  case atStart => exact ⟨0, rfl, rfl, Nat.zero_le _, Nat.zero_le _, by omega, Y3.out.mono (fun _ _ h => h.elim), T3.out⟩
  case round =>
    clear T3 Y3
    obtain ⟨i, rfl, rfl, hin, hi30, hg, X, T⟩ := hrel
    by_cases hlt : i < n
    · by_cases hl3 : i < 30
      · have hik : i < kss.length := by have := HN.out; omega
        obtain ⟨cb, co, rfl, CI⟩ := HC.out (by omega)
        have hiv : i < cvs.length := by rw [CI.len]; exact hik
        have hcb : cb < w.heap.size := block_lt_of_cell (CI.cell i hiv)
        have hlow : cb < p := by have := HP.out; omega
        obtain ⟨ia, ic, hv, hic, hkeys⟩ := (CI.keys i hiv hik).cut 20
        have c1 : ∀ n', (wr.drewN n').cell? ⟨cb, co + i, none⟩ = some (.slice ia kss[i].length ic) := fun n' => by
          rw [← hv]; exact (X.out.drewN n').cell (CI.cell i hiv) (show ¬ p ≤ cb by omega)
        have cut := cut20 ia kss[i].length ic hic
        have HCI := Lib.hid CI
        have KK := Lib.hid hkeys
        have HL : Hid ((kss[i].take 20).length ≤ 20) := by show _ ≤ _; rw [List.length_take]; omega
        clear CI hv hkeys
        generalize kss[i].take 20 = ks at KK HL
        generalize kss[i].length = m at c1 cut KK hic
        have z1 : (i : Int) < (n : Int) := by omega
        have z2 : (i : Int) < 30 := by omega
        generalize min m 20 = r at cut KK
        go_wp2
        go_quiet (fail)
        generalize hwd : wr.drewN nq = wd
        have XD : Hid (Chg (fun j => p ≤ j) w wd) := by show Chg _ w wd; rw [← hwd]; exact X.out.drewN nq
        have TD : Hid (Two wd p q i) := by show Two wd p q i; rw [← hwd]; exact T.out.ext ((Ext.refl wr).drewN nq)
        clear hwd c1
        have a1 := Lib.hid (add_first TD.out hl3 (KK.out.low XD.out HP.out) HL.out)
        go_wp2_with fail
        refine a1.out.mono ?_
        rintro e w4 ⟨rfl, M4, X4⟩
        have M4 := Lib.hid M4
        have X4 : Hid (Chg (fun j => p ≤ j) w w4) := XD.out.trans X4 (fun _ _ h => h)
        clear a1
        have a2 := Lib.hid (add_second M4.out hl3 (KK.out.low X4.out HP.out) HL.out)
        go_wp2_with fail
        refine a2.out.mono ?_
        rintro e w5 ⟨rfl, T5, X5⟩
        have T5 := Lib.hid T5
        have X5 : Hid (Chg (fun j => p ≤ j) w w5) := X4.out.trans X5 (fun _ _ h => h)
        clear a2
        go_wp2
        go_roundg (30 - (i + 1))
        case measure => omega
        case rel => exact ⟨i + 1, by congr 1, by go_num, by omega, by omega, Nat.le_refl _, X5.out, T5.out⟩
      · have hd : decide ((i : Int) < 30) = false := by simp; omega
        go_wp2_with fail
        go_meet
        exact ⟨i, rfl, by omega, X, T⟩
    · go_wp2_with fail
      go_meet
      exact ⟨i, rfl, by omega, X, T⟩
end Go.Proofs.Ytgkjckfkbpijpaa
