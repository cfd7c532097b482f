/- The walk of SpanNone, its first look taken as given. -/
import Derived.Test.YtfeomnkgkppdlaaSpOf
set_option linter.unusedVariables false
set_option linter.unusedSimpArgs false
namespace Go.Proofs.Ytfeomnkgkppdlaa
open Go Go.RowKit Go.Sort Go.Lib
attribute [local go_sem ↓] run_size24 run_size49 run_size25
attribute [local simp high] run_size24x run_size49x run_size25x
attribute [local go_sem ↓] to_span1 to_span2 to_span3 to_key1 to_spans1 to_keys1 to_bd0 to_bd1
attribute [local simp] is_bFrEn is_bTo is_bEn is_bFrTo is_bSpans1 is_bKeys1 run_bFrEn run_bTo run_bEn run_bFrTo run_bSpans1 run_bKeys1 is_bBdKey is_bBdEn is_bSp3 run_bBdKey run_bBdEn run_bBd0 run_bSp3

theorem spansIn_one {w : World} {b : Nat} {s : Sp} (h : CellsAt w b 0 (spanCells s)) : SpansIn w (.slice (some ⟨b, 0, none⟩) 1 1) [s] :=
  ⟨some ⟨b, 0, none⟩, 1, rfl, Nat.le_refl _, fun _ => ⟨b, 0, rfl, fun i hi => by
    have : i = 0 := by simpa using hi
    subst this
    simpa using h⟩, fun h => by cases h⟩
theorem spansIn_nil (w : World) : SpansIn w (.slice none 0 0) [] := ⟨none, 0, rfl, Nat.le_refl _, fun h => absurd h (by simp), fun _ => ⟨rfl, rfl⟩⟩
theorem Tells.empty {out : List Sp} {M : Nat → Prop} (h : Tells out M) (hM : ∀ n, ¬ M n) : out = [] := by
  cases out with
  | nil => rfl
  | cons s r =>
    have h1 : (sN s).1 < (sN s).2 := h.1.2.1
    exact (hM _ ((h.2.2 (sN s).1).1 ((mem_cons _ _ _).2 (.inl ⟨Nat.le_refl _, h1⟩)))).elim
def allS : Sp := ⟨zeroKey, zeroKey, true⟩
theorem nK_zero : nK zeroKey = 0 := by decide +kernel
theorem mem_all (n : Nat) : mem n (NL [allS]) ↔ n < 256 ^ 24 := by
  have e : NL [allS] = [(0, 256 ^ 24)] := by simp [NL, sN, allS, fromB, toB, nB, nK_zero]
  rw [e, mem_cons]
  exact ⟨fun h => h.elim (fun h => h.2) (fun h => (mem_nil _ h).elim), fun h => .inl ⟨Nat.zero_le _, h⟩⟩

set_option maxHeartbeats 4000000 in
set_option maxRecDepth 100000 in
theorem none_any (sh : ∀ w, Calls Try.prog 10 #[] w fun e w' => e = .returned (.bool true) ∧ Chg (fun _ => False) w w') (v : Value) (ss : List Sp) (w : World) (h : SpansIn w v ss) :
    Calls Try.prog 5 #[v] w fun e w' => e = .returned (.bool true) ∧ Chg (fun _ => False) w w' := by
  have k1 : ¬ K24 = 0 := by decide
  have k2 : ¬ K49 = 0 := by decide
  have sh := Lib.hid (sh w)
  have HS := Lib.hid h
  clear h
  go_enter Try.func5, Try.ntmps5
  go_wp2_with fail
  refine sh.out.mono ?_
  rintro e w1 ⟨rfl, X1⟩
  have X1 := Lib.hid X1
  have cu := Lib.hid (cut_of v ss w1 (HS.out.chg X1.out (fun _ _ h => h)))
  clear sh
  go_wp2_with fail
  refine cu.out.mono ?_
  rintro e w2 ⟨vl, rfl, OL, X2⟩
  have hl : (ss.take 30).length ≤ 30 := by rw [List.length_take]; omega
  generalize ss.take 30 = xs at OL hl
  have SL := Lib.hid (spansIn_own OL)
  have X2 : Hid (Chg (fun _ => False) w w2) := X1.out.trans X2 (fun _ _ h => h)
  clear cu X1 OL
  have XA : Hid (Chg (fun _ => False) w2 (w2.alloc (.cells (spanCells allS).toArray 28))) := chg_alloc _ _ _
  have AL : Hid (SpansIn (w2.alloc (.cells (spanCells allS).toArray 28)) (.slice (some ⟨w2.heap.size, 0, none⟩) 1 1) [allS]) := spansIn_one (cellsAt_new w2 (spanCells allS) 28)
  have SL := Lib.hid (SL.out.chg XA.out (fun _ _ h => h))
  have eA : (⟨zeroKey, zeroKey, true⟩ : Sp) = allS := rfl
  have q1 := Lib.hid (clean_spans vl xs (w2.alloc (.cells (spanCells allS).toArray 28)) SL.out (by omega))
  go_wp2_with fail
  refine q1.out.mono ?_
  rintro e w3 ⟨vc, c, rfl, CC, SC, X3⟩
  have CC := Lib.hid CC
  have SC := Lib.hid SC
  have SL := Lib.hid (SL.out.chg X3 (fun _ _ h => h))
  have AL := Lib.hid (AL.out.chg X3 (fun _ _ h => h))
  have X3 : Hid (Chg (fun _ => False) w w3) := (X2.out.trans XA.out (fun _ _ h => h)).trans X3 (fun _ _ h => h)
  clear q1 X2 XA
  have q2 := Lib.hid (both_of vl _ xs [allS] w3 SL.out AL.out (by omega) (by simp))
  go_wp2_with fail
  refine q2.out.mono ?_
  rintro e w4 ⟨vb, b, rfl, BB, SB, X4⟩
  have BB := Lib.hid BB
  have SB := Lib.hid SB
  have SC := Lib.hid (SC.out.chg X4 (fun _ _ h => h))
  have SL := Lib.hid (SL.out.chg X4 (fun _ _ h => h))
  have AL := Lib.hid (AL.out.chg X4 (fun _ _ h => h))
  have X4 : Hid (Chg (fun _ => False) w w4) := X3.out.trans X4 (fun _ _ h => h)
  clear q2 X3
  have EB : Hid (b = c) := (tells_both BB.out).unique (tells_clean CC.out) (fun n => ⟨fun h => h.1, fun h => ⟨h, (mem_all n).2 (mem_top h)⟩⟩)
  have lc := Lib.hid CC.out.length
  have q3 := same_of vb vc b c w4 SB.out SC.out (by rw [EB.out]; have := lc.out; omega) (by have := lc.out; omega)
  rw [decide_eq_true EB.out] at q3
  have q3 := Lib.hid q3
  go_wp2_with fail
  refine q3.out.mono ?_
  rintro e w5 ⟨rfl, X5⟩
  have SC := Lib.hid (SC.out.chg X5 (fun _ _ h => h))
  have SL := Lib.hid (SL.out.chg X5 (fun _ _ h => h))
  have AL := Lib.hid (AL.out.chg X5 (fun _ _ h => h))
  have X5 : Hid (Chg (fun _ => False) w w5) := X4.out.trans X5 (fun _ _ h => h)
  clear q3 X4
  have q4 := Lib.hid (less_of vl _ xs [] w5 SL.out (spansIn_nil w5) (by omega) (by simp))
  go_wp2_with fail
  refine q4.out.mono ?_
  rintro e w6 ⟨vd, d, rfl, DD, SD, X6⟩
  have DD := Lib.hid DD
  have SD := Lib.hid SD
  have SC := Lib.hid (SC.out.chg X6 (fun _ _ h => h))
  have SL := Lib.hid (SL.out.chg X6 (fun _ _ h => h))
  have AL := Lib.hid (AL.out.chg X6 (fun _ _ h => h))
  have X6 : Hid (Chg (fun _ => False) w w6) := X5.out.trans X6 (fun _ _ h => h)
  clear q4 X5
  have ED : Hid (d = c) := (tells_less DD.out).unique (tells_clean CC.out) (fun n => ⟨fun h => h.1, fun h => ⟨h, mem_nil n⟩⟩)
  have q5 := same_of vd vc d c w6 SD.out SC.out (by rw [ED.out]; have := lc.out; omega) (by have := lc.out; omega)
  rw [decide_eq_true ED.out] at q5
  have q5 := Lib.hid q5
  go_wp2_with fail
  refine q5.out.mono ?_
  rintro e w7 ⟨rfl, X7⟩
  have SC := Lib.hid (SC.out.chg X7 (fun _ _ h => h))
  have SL := Lib.hid (SL.out.chg X7 (fun _ _ h => h))
  have AL := Lib.hid (AL.out.chg X7 (fun _ _ h => h))
  have X7 : Hid (Chg (fun _ => False) w w7) := X6.out.trans X7 (fun _ _ h => h)
  clear q5 X6
  have q6 := Lib.hid (less_of vl _ xs [allS] w7 SL.out AL.out (by omega) (by simp))
  go_wp2_with fail
  refine q6.out.mono ?_
  rintro e w8 ⟨vf, f, rfl, FF, SF, X8⟩
  have EF : f = [] := (tells_less FF).empty (fun n h => h.2 ((mem_all n).2 (mem_top h.1)))
  subst EF
  obtain ⟨a8, c8, rfl⟩ := SF.length
  have SC := Lib.hid (SC.out.chg X8 (fun _ _ h => h))
  have SL := Lib.hid (SL.out.chg X8 (fun _ _ h => h))
  have AL := Lib.hid (AL.out.chg X8 (fun _ _ h => h))
  have X8 : Hid (Chg (fun _ => False) w w8) := X7.out.trans X8 (fun _ _ h => h)
  clear q6 X7 SF FF
  have q7 := Lib.hid (both_of vl _ xs [] w8 SL.out (spansIn_nil w8) (by omega) (by simp))
  go_wp2_with fail
  refine q7.out.mono ?_
  rintro e w9 ⟨vg, g, rfl, GG, SG, X9⟩
  have EG : g = [] := (tells_both GG).empty (fun n h => mem_nil n h.2)
  subst EG
  obtain ⟨a9, c9, rfl⟩ := SG.length
  have SC := Lib.hid (SC.out.chg X9 (fun _ _ h => h))
  have SL := Lib.hid (SL.out.chg X9 (fun _ _ h => h))
  have AL := Lib.hid (AL.out.chg X9 (fun _ _ h => h))
  have X9 : Hid (Chg (fun _ => False) w w9) := X8.out.trans X9 (fun _ _ h => h)
  clear q7 X8 SG GG
  have q8 := Lib.hid (touch_of vl _ xs [allS] w9 SL.out AL.out (by omega) (by simp))
  go_wp2_with fail
  refine q8.out.mono ?_
  rintro e wa ⟨t, rfl, TT, Xa⟩
  have ET : t = c := (tells_both TT).unique (tells_clean CC.out) (fun n => ⟨fun h => h.1, fun h => ⟨h, (mem_all n).2 (mem_top h)⟩⟩)
  subst ET
  have SC := Lib.hid (SC.out.chg Xa (fun _ _ h => h))
  have AL := Lib.hid (AL.out.chg Xa (fun _ _ h => h))
  have Xa : Hid (Chg (fun _ => False) w wa) := X9.out.trans Xa (fun _ _ h => h)
  clear q8 X9 TT
  have q9 := Lib.hid (touch_of _ _ [] [allS] wa (spansIn_nil wa) AL.out (by simp) (by simp))
  obtain ⟨ac, cc, rfl⟩ := SC.out.length
  go_wp2_with fail
  refine q9.out.mono ?_
  rintro e wb ⟨u, rfl, UU, Xb⟩
  have EU : u = [] := (tells_both UU).empty (fun n h => mem_nil n h.1)
  subst EU
  have Xb : Hid (Chg (fun _ => False) w wb) := Xa.out.trans Xb (fun _ _ h => h)
  clear q9 UU
  go_wp2
  go_ret
  exact ⟨rfl, Xb.out⟩
end Go.Proofs.Ytfeomnkgkppdlaa
