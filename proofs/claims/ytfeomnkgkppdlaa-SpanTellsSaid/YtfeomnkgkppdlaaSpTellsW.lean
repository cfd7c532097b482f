/- The walk of SpanTells. -/
import Derived.Test.YtfeomnkgkppdlaaTlClean
import Derived.Test.YtfeomnkgkppdlaaSpShown
import Derived.Test.YtfeomnkgkppdlaaSpAny
import Derived.Test.YtfeomnkgkppdlaaSpSame
set_option linter.unusedVariables false
set_option linter.unusedSimpArgs false
namespace Go.Proofs.Ytfeomnkgkppdlaa
open Go Go.RowKit Go.Sort Go.Lib Go.Deep
attribute [local go_sem ↓] run_size24 run_size49 run_size25
attribute [local simp high] run_size24x run_size49x run_size25x
theorem KeysIn.cut {w : World} {v : Value} {ks : List Key} (h : KeysIn w v ks) (k : Nat) : ∃ a c, v = .slice a ks.length c ∧ (∀ W, (Instr.sliceAt 36 v none (some (.int .i64 (min (ks.length : Int) (k : Int)))) none).run Try.prog W = .ok (.slice a (min ks.length k) c) W) ∧ KeysIn w (.slice a (min ks.length k) c) (ks.take k) := by
  obtain ⟨a, c, rfl, hc, hr, hn⟩ := h
  refine ⟨a, c, rfl, fun W => ?_, ⟨a, c, by rw [List.length_take, Nat.min_comm], by rw [List.length_take]; omega, fun hp => ?_, fun h => ?_⟩⟩
  · have e : (min (ks.length : Int) (k : Int)) = ((min ks.length k : Nat) : Int) := by omega
    rw [e]
    exact cut_to 36 26 Try.underlying36 24 Try.sizeOf26 a ks.length c (min ks.length k) (by omega) W
  · obtain ⟨b, o, e, hr2⟩ := hr (by rw [List.length_take] at hp; omega)
    exact ⟨b, o, e, RowAt.take (enc := keyCells) (k := 24) hr2 k⟩
  · have := hn h
    rw [List.length_take]; omega
theorem cut_spans (v : Value) (ss A : List Sp) (w : World) (h : SpansIn w v ss) (hA : A = ss.take 30) : Calls Try.prog 11 #[v] w fun e w' => ∃ v', e = .returned v' ∧ SpansIn w' v' A ∧ Chg (fun _ => False) w w' := by
  subst hA
  exact (cut_of v ss w h).mono fun e w' ⟨v', he, ho, hx⟩ => ⟨v', he, spansIn_own ho, hx⟩
set_option maxHeartbeats 8000000 in
set_option maxRecDepth 100000 in
theorem tells_any (v0 v1 v2 : Value) (s0 s1 : List Sp) (ks : List Key) (w : World) (h0 : SpansIn w v0 s0) (h1 : SpansIn w v1 s1) (h2 : KeysIn w v2 ks) :
    Calls Try.prog 8 #[v0, v1, v2] w fun e w' => e = .returned (.bool true) ∧ Chg (fun _ => False) w w' := by
  have mixed := Try.mixed
  have k1 : ¬ K24 = 0 := by decide
  have k2 : ¬ K49 = 0 := by decide
  have H0 := Lib.hid h0
  have H1 := Lib.hid h1
  obtain ⟨ka, kc0, rfl, kcut0, KK⟩ := h2.cut 30
  have kcut : ∀ W, (Instr.sliceAt 36 (.slice ka ks.length kc0) none (some (.int .i64 (min (ks.length : Int) 30))) none).run Try.prog W = .ok (.slice ka (min ks.length 30) kc0) W := kcut0
  clear kcut0 h0 h1 h2
  have MK : Hid ((ks.take 30).length = min ks.length 30) := by show _ = _; rw [List.length_take, Nat.min_comm]
  have hm : min ks.length 30 ≤ 30 := by omega
  have KK := Lib.hid KK
  generalize ks.take 30 = K at KK MK
  generalize min ks.length 30 = m at kcut KK MK hm
  obtain ⟨A, hA⟩ : ∃ A, A = s0.take 30 := ⟨_, rfl⟩
  obtain ⟨B, hB⟩ : ∃ B, B = s1.take 30 := ⟨_, rfl⟩
  have lA : Hid (A.length ≤ 30) := by show _ ≤ _; rw [hA, List.length_take]; omega
  have lB : Hid (B.length ≤ 30) := by show _ ≤ _; rw [hB, List.length_take]; omega
  have EA := Lib.hid hA
  have EB := Lib.hid hB
  clear hA hB
  go_enter Try.func8, Try.ntmps8
  have q := Lib.hid (shown_any w)
  go_wp2_with fail
  refine q.out.mono ?_
  rintro e w1 ⟨rfl, X⟩
  have H0 := Lib.hid (H0.out.chg X (fun _ _ h => h))
  have H1 := Lib.hid (H1.out.chg X (fun _ _ h => h))
  have KK := Lib.hid (KK.out.chg X (fun _ _ h => h))
  have Y : Hid (Chg (fun _ => False) w w1) := X
  clear q X
  have q := Lib.hid (cut_spans v0 s0 A w1 H0.out EA.out)
  go_wp2_with fail
  refine q.out.mono ?_
  rintro e w4 ⟨v_a, rfl, S_a, X⟩
  have H0 := Lib.hid (H0.out.chg X (fun _ _ h => h))
  have H1 := Lib.hid (H1.out.chg X (fun _ _ h => h))
  have KK := Lib.hid (KK.out.chg X (fun _ _ h => h))
  have Y : Hid (Chg (fun _ => False) w w4) := Y.out.trans X (fun _ _ h => h)
  clear q X
  have S_a := Lib.hid S_a
  have q := Lib.hid (cut_spans v1 s1 B w4 H1.out EB.out)
  go_wp2_with fail
  refine q.out.mono ?_
  rintro e w5 ⟨v_b, rfl, S_b, X⟩
  have H0 := Lib.hid (H0.out.chg X (fun _ _ h => h))
  have H1 := Lib.hid (H1.out.chg X (fun _ _ h => h))
  have KK := Lib.hid (KK.out.chg X (fun _ _ h => h))
  have S_a := Lib.hid (S_a.out.chg X (fun _ _ h => h))
  have Y : Hid (Chg (fun _ => False) w w5) := Y.out.trans X (fun _ _ h => h)
  clear q X
  have S_b := Lib.hid S_b
  have q := Lib.hid (clean_spans v_a A w5 S_a.out (by have := lA.out; omega))
  go_wp2_with fail
  refine q.out.mono ?_
  rintro e w6 ⟨v_p, p, rfl, Z_p, S_p, X⟩
  have H0 := Lib.hid (H0.out.chg X (fun _ _ h => h))
  have H1 := Lib.hid (H1.out.chg X (fun _ _ h => h))
  have KK := Lib.hid (KK.out.chg X (fun _ _ h => h))
  have S_a := Lib.hid (S_a.out.chg X (fun _ _ h => h))
  have S_b := Lib.hid (S_b.out.chg X (fun _ _ h => h))
  have Y : Hid (Chg (fun _ => False) w w6) := Y.out.trans X (fun _ _ h => h)
  clear q X
  have S_p := Lib.hid S_p
  have q := Lib.hid (cut_spans v0 s0 A w6 H0.out EA.out)
  go_wp2_with fail
  refine q.out.mono ?_
  rintro e w7 ⟨v_x, rfl, S_x, X⟩
  have H0 := Lib.hid (H0.out.chg X (fun _ _ h => h))
  have H1 := Lib.hid (H1.out.chg X (fun _ _ h => h))
  have KK := Lib.hid (KK.out.chg X (fun _ _ h => h))
  have S_a := Lib.hid (S_a.out.chg X (fun _ _ h => h))
  have S_b := Lib.hid (S_b.out.chg X (fun _ _ h => h))
  have S_p := Lib.hid (S_p.out.chg X (fun _ _ h => h))
  have Y : Hid (Chg (fun _ => False) w w7) := Y.out.trans X (fun _ _ h => h)
  clear q X
  have S_x := Lib.hid S_x
  have q := Lib.hid (cleanR_any v_x A w7 S_x.out (by have := lA.out; omega))
  go_wp2_with fail
  refine q.out.mono ?_
  rintro e w8 ⟨v_r, rfl, S_r, X⟩
  have H0 := Lib.hid (H0.out.chg X (fun _ _ h => h))
  have H1 := Lib.hid (H1.out.chg X (fun _ _ h => h))
  have KK := Lib.hid (KK.out.chg X (fun _ _ h => h))
  have S_a := Lib.hid (S_a.out.chg X (fun _ _ h => h))
  have S_b := Lib.hid (S_b.out.chg X (fun _ _ h => h))
  have S_p := Lib.hid (S_p.out.chg X (fun _ _ h => h))
  have S_x := Lib.hid (S_x.out.chg X (fun _ _ h => h))
  have Y : Hid (Chg (fun _ => False) w w8) := Y.out.trans X (fun _ _ h => h)
  clear q X
  have S_r := Lib.hid S_r
  have E : Hid (p = refL (fun k => hasL k A) (bdsL A)) := (tells_clean Z_p).unique (ref_clean A) (fun n => Iff.rfl)
  have l_p : Hid (p.length ≤ 100) := by have := Z_p.length; have := lA.out; have := lB.out; show _ ≤ _; omega
  clear Z_p
  generalize refL (fun k => hasL k A) (bdsL A) = r at S_r E
  have qs := same_of v_p v_r p r w8 S_p.out S_r.out (by have := l_p.out; omega) (by rw [← E.out]; have := l_p.out; omega)
  rw [decide_eq_true E.out] at qs
  have q := Lib.hid (qs)
  go_wp2_with fail
  refine q.out.mono ?_
  rintro e w9 ⟨rfl, X⟩
  have H0 := Lib.hid (H0.out.chg X (fun _ _ h => h))
  have H1 := Lib.hid (H1.out.chg X (fun _ _ h => h))
  have KK := Lib.hid (KK.out.chg X (fun _ _ h => h))
  have S_a := Lib.hid (S_a.out.chg X (fun _ _ h => h))
  have S_b := Lib.hid (S_b.out.chg X (fun _ _ h => h))
  have S_p := Lib.hid (S_p.out.chg X (fun _ _ h => h))
  have S_x := Lib.hid (S_x.out.chg X (fun _ _ h => h))
  have S_r := Lib.hid (S_r.out.chg X (fun _ _ h => h))
  have Y : Hid (Chg (fun _ => False) w w9) := Y.out.trans X (fun _ _ h => h)
  clear q X
  clear qs E l_p
  clear S_p S_x S_r
  have q := Lib.hid (both_of v_a v_b A B w9 S_a.out S_b.out (by have := lA.out; omega) (by have := lB.out; omega))
  go_wp2_with fail
  refine q.out.mono ?_
  rintro e w10 ⟨v_p, p, rfl, Z_p, S_p, X⟩
  have H0 := Lib.hid (H0.out.chg X (fun _ _ h => h))
  have H1 := Lib.hid (H1.out.chg X (fun _ _ h => h))
  have KK := Lib.hid (KK.out.chg X (fun _ _ h => h))
  have S_a := Lib.hid (S_a.out.chg X (fun _ _ h => h))
  have S_b := Lib.hid (S_b.out.chg X (fun _ _ h => h))
  have Y : Hid (Chg (fun _ => False) w w10) := Y.out.trans X (fun _ _ h => h)
  clear q X
  have S_p := Lib.hid S_p
  have q := Lib.hid (cut_spans v0 s0 A w10 H0.out EA.out)
  go_wp2_with fail
  refine q.out.mono ?_
  rintro e w11 ⟨v_x, rfl, S_x, X⟩
  have H0 := Lib.hid (H0.out.chg X (fun _ _ h => h))
  have H1 := Lib.hid (H1.out.chg X (fun _ _ h => h))
  have KK := Lib.hid (KK.out.chg X (fun _ _ h => h))
  have S_a := Lib.hid (S_a.out.chg X (fun _ _ h => h))
  have S_b := Lib.hid (S_b.out.chg X (fun _ _ h => h))
  have S_p := Lib.hid (S_p.out.chg X (fun _ _ h => h))
  have Y : Hid (Chg (fun _ => False) w w11) := Y.out.trans X (fun _ _ h => h)
  clear q X
  have S_x := Lib.hid S_x
  have q := Lib.hid (cut_spans v1 s1 B w11 H1.out EB.out)
  go_wp2_with fail
  refine q.out.mono ?_
  rintro e w12 ⟨v_y, rfl, S_y, X⟩
  have H0 := Lib.hid (H0.out.chg X (fun _ _ h => h))
  have H1 := Lib.hid (H1.out.chg X (fun _ _ h => h))
  have KK := Lib.hid (KK.out.chg X (fun _ _ h => h))
  have S_a := Lib.hid (S_a.out.chg X (fun _ _ h => h))
  have S_b := Lib.hid (S_b.out.chg X (fun _ _ h => h))
  have S_p := Lib.hid (S_p.out.chg X (fun _ _ h => h))
  have S_x := Lib.hid (S_x.out.chg X (fun _ _ h => h))
  have Y : Hid (Chg (fun _ => False) w w12) := Y.out.trans X (fun _ _ h => h)
  clear q X
  have S_y := Lib.hid S_y
  have q := Lib.hid (bothR_any v_x v_y A B w12 S_x.out S_y.out (by have := lA.out; omega) (by have := lB.out; omega))
  go_wp2_with fail
  refine q.out.mono ?_
  rintro e w13 ⟨v_r, rfl, S_r, X⟩
  have H0 := Lib.hid (H0.out.chg X (fun _ _ h => h))
  have H1 := Lib.hid (H1.out.chg X (fun _ _ h => h))
  have KK := Lib.hid (KK.out.chg X (fun _ _ h => h))
  have S_a := Lib.hid (S_a.out.chg X (fun _ _ h => h))
  have S_b := Lib.hid (S_b.out.chg X (fun _ _ h => h))
  have S_p := Lib.hid (S_p.out.chg X (fun _ _ h => h))
  have S_x := Lib.hid (S_x.out.chg X (fun _ _ h => h))
  have S_y := Lib.hid (S_y.out.chg X (fun _ _ h => h))
  have Y : Hid (Chg (fun _ => False) w w13) := Y.out.trans X (fun _ _ h => h)
  clear q X
  have S_r := Lib.hid S_r
  have E : Hid (p = refL (fun k => hasL k A && hasL k B) (bdsL (A ++ B))) := (tells_both Z_p).unique (ref_both A B) (fun n => Iff.rfl)
  have l_p : Hid (p.length ≤ 100) := by have := Z_p.length; have := lA.out; have := lB.out; show _ ≤ _; omega
  clear Z_p
  generalize refL (fun k => hasL k A && hasL k B) (bdsL (A ++ B)) = r at S_r E
  have qs := same_of v_p v_r p r w13 S_p.out S_r.out (by have := l_p.out; omega) (by rw [← E.out]; have := l_p.out; omega)
  rw [decide_eq_true E.out] at qs
  have q := Lib.hid (qs)
  go_wp2_with fail
  refine q.out.mono ?_
  rintro e w14 ⟨rfl, X⟩
  have H0 := Lib.hid (H0.out.chg X (fun _ _ h => h))
  have H1 := Lib.hid (H1.out.chg X (fun _ _ h => h))
  have KK := Lib.hid (KK.out.chg X (fun _ _ h => h))
  have S_a := Lib.hid (S_a.out.chg X (fun _ _ h => h))
  have S_b := Lib.hid (S_b.out.chg X (fun _ _ h => h))
  have S_p := Lib.hid (S_p.out.chg X (fun _ _ h => h))
  have S_x := Lib.hid (S_x.out.chg X (fun _ _ h => h))
  have S_y := Lib.hid (S_y.out.chg X (fun _ _ h => h))
  have S_r := Lib.hid (S_r.out.chg X (fun _ _ h => h))
  have Y : Hid (Chg (fun _ => False) w w14) := Y.out.trans X (fun _ _ h => h)
  clear q X
  clear qs E l_p
  clear S_p S_x S_y S_r
  have q := Lib.hid (less_of v_a v_b A B w14 S_a.out S_b.out (by have := lA.out; omega) (by have := lB.out; omega))
  go_wp2_with fail
  refine q.out.mono ?_
  rintro e w15 ⟨v_p, p, rfl, Z_p, S_p, X⟩
  have H0 := Lib.hid (H0.out.chg X (fun _ _ h => h))
  have H1 := Lib.hid (H1.out.chg X (fun _ _ h => h))
  have KK := Lib.hid (KK.out.chg X (fun _ _ h => h))
  have S_a := Lib.hid (S_a.out.chg X (fun _ _ h => h))
  have S_b := Lib.hid (S_b.out.chg X (fun _ _ h => h))
  have Y : Hid (Chg (fun _ => False) w w15) := Y.out.trans X (fun _ _ h => h)
  clear q X
  have S_p := Lib.hid S_p
  have q := Lib.hid (cut_spans v0 s0 A w15 H0.out EA.out)
  go_wp2_with fail
  refine q.out.mono ?_
  rintro e w16 ⟨v_x, rfl, S_x, X⟩
  have H0 := Lib.hid (H0.out.chg X (fun _ _ h => h))
  have H1 := Lib.hid (H1.out.chg X (fun _ _ h => h))
  have KK := Lib.hid (KK.out.chg X (fun _ _ h => h))
  have S_a := Lib.hid (S_a.out.chg X (fun _ _ h => h))
  have S_b := Lib.hid (S_b.out.chg X (fun _ _ h => h))
  have S_p := Lib.hid (S_p.out.chg X (fun _ _ h => h))
  have Y : Hid (Chg (fun _ => False) w w16) := Y.out.trans X (fun _ _ h => h)
  clear q X
  have S_x := Lib.hid S_x
  have q := Lib.hid (cut_spans v1 s1 B w16 H1.out EB.out)
  go_wp2_with fail
  refine q.out.mono ?_
  rintro e w17 ⟨v_y, rfl, S_y, X⟩
  have H0 := Lib.hid (H0.out.chg X (fun _ _ h => h))
  have H1 := Lib.hid (H1.out.chg X (fun _ _ h => h))
  have KK := Lib.hid (KK.out.chg X (fun _ _ h => h))
  have S_a := Lib.hid (S_a.out.chg X (fun _ _ h => h))
  have S_b := Lib.hid (S_b.out.chg X (fun _ _ h => h))
  have S_p := Lib.hid (S_p.out.chg X (fun _ _ h => h))
  have S_x := Lib.hid (S_x.out.chg X (fun _ _ h => h))
  have Y : Hid (Chg (fun _ => False) w w17) := Y.out.trans X (fun _ _ h => h)
  clear q X
  have S_y := Lib.hid S_y
  have q := Lib.hid (lessR_any v_x v_y A B w17 S_x.out S_y.out (by have := lA.out; omega) (by have := lB.out; omega))
  go_wp2_with fail
  refine q.out.mono ?_
  rintro e w18 ⟨v_r, rfl, S_r, X⟩
  have H0 := Lib.hid (H0.out.chg X (fun _ _ h => h))
  have H1 := Lib.hid (H1.out.chg X (fun _ _ h => h))
  have KK := Lib.hid (KK.out.chg X (fun _ _ h => h))
  have S_a := Lib.hid (S_a.out.chg X (fun _ _ h => h))
  have S_b := Lib.hid (S_b.out.chg X (fun _ _ h => h))
  have S_p := Lib.hid (S_p.out.chg X (fun _ _ h => h))
  have S_x := Lib.hid (S_x.out.chg X (fun _ _ h => h))
  have S_y := Lib.hid (S_y.out.chg X (fun _ _ h => h))
  have Y : Hid (Chg (fun _ => False) w w18) := Y.out.trans X (fun _ _ h => h)
  clear q X
  have S_r := Lib.hid S_r
  have E : Hid (p = refL (fun k => hasL k A && !hasL k B) (bdsL (A ++ B))) := (tells_less Z_p).unique (ref_less A B) (fun n => Iff.rfl)
  have l_p : Hid (p.length ≤ 100) := by have := Z_p.length; have := lA.out; have := lB.out; show _ ≤ _; omega
  clear Z_p
  generalize refL (fun k => hasL k A && !hasL k B) (bdsL (A ++ B)) = r at S_r E
  have qs := same_of v_p v_r p r w18 S_p.out S_r.out (by have := l_p.out; omega) (by rw [← E.out]; have := l_p.out; omega)
  rw [decide_eq_true E.out] at qs
  have q := Lib.hid (qs)
  go_wp2_with fail
  refine q.out.mono ?_
  rintro e w19 ⟨rfl, X⟩
  have H0 := Lib.hid (H0.out.chg X (fun _ _ h => h))
  have H1 := Lib.hid (H1.out.chg X (fun _ _ h => h))
  have KK := Lib.hid (KK.out.chg X (fun _ _ h => h))
  have S_a := Lib.hid (S_a.out.chg X (fun _ _ h => h))
  have S_b := Lib.hid (S_b.out.chg X (fun _ _ h => h))
  have S_p := Lib.hid (S_p.out.chg X (fun _ _ h => h))
  have S_x := Lib.hid (S_x.out.chg X (fun _ _ h => h))
  have S_y := Lib.hid (S_y.out.chg X (fun _ _ h => h))
  have S_r := Lib.hid (S_r.out.chg X (fun _ _ h => h))
  have Y : Hid (Chg (fun _ => False) w w19) := Y.out.trans X (fun _ _ h => h)
  clear q X
  clear qs E l_p
  clear S_p S_x S_y S_r
  obtain ⟨pb, hpb⟩ : ∃ pb : Bool, pb = decide (0 < (refL (fun k => hasL k A && hasL k B) (bdsL (A ++ B))).length) := ⟨_, rfl⟩
  have PB := Lib.hid hpb
  clear hpb
  go_upto_region 8 with fail
  go_cut [13] (fun s13 wx => s13 = .bool pb ∧ Aside (Chg (fun _ => False) w19 wx))
  case first =>
    have YS : Hid (Chg (fun _ => False) w19 w19) := Chg.refl _ _
    have q := Lib.hid (cut_spans v0 s0 A w19 H0.out EA.out)
    go_wp2_with fail
    refine q.out.mono ?_
    rintro e w20 ⟨v_x, rfl, S_x, X⟩
    have YS : Hid (Chg (fun _ => False) w19 w20) := YS.out.trans X (fun _ _ h => h)
    have H0 := Lib.hid (H0.out.chg X (fun _ _ h => h))
    have H1 := Lib.hid (H1.out.chg X (fun _ _ h => h))
    have KK := Lib.hid (KK.out.chg X (fun _ _ h => h))
    have S_a := Lib.hid (S_a.out.chg X (fun _ _ h => h))
    have S_b := Lib.hid (S_b.out.chg X (fun _ _ h => h))
    have Y : Hid (Chg (fun _ => False) w w20) := Y.out.trans X (fun _ _ h => h)
    clear q X
    have S_x := Lib.hid S_x
    have q := Lib.hid (cut_spans v1 s1 B w20 H1.out EB.out)
    go_wp2_with fail
    refine q.out.mono ?_
    rintro e w21 ⟨v_y, rfl, S_y, X⟩
    have YS : Hid (Chg (fun _ => False) w19 w21) := YS.out.trans X (fun _ _ h => h)
    have H0 := Lib.hid (H0.out.chg X (fun _ _ h => h))
    have H1 := Lib.hid (H1.out.chg X (fun _ _ h => h))
    have KK := Lib.hid (KK.out.chg X (fun _ _ h => h))
    have S_a := Lib.hid (S_a.out.chg X (fun _ _ h => h))
    have S_b := Lib.hid (S_b.out.chg X (fun _ _ h => h))
    have S_x := Lib.hid (S_x.out.chg X (fun _ _ h => h))
    have Y : Hid (Chg (fun _ => False) w w21) := Y.out.trans X (fun _ _ h => h)
    clear q X
    have S_y := Lib.hid S_y
    have q := Lib.hid (bothR_any v_x v_y A B w21 S_x.out S_y.out (by have := lA.out; omega) (by have := lB.out; omega))
    go_wp2_with fail
    refine q.out.mono ?_
    rintro e w22 ⟨v_r, rfl, S_r, X⟩
    have YS : Hid (Chg (fun _ => False) w19 w22) := YS.out.trans X (fun _ _ h => h)
    have H0 := Lib.hid (H0.out.chg X (fun _ _ h => h))
    have H1 := Lib.hid (H1.out.chg X (fun _ _ h => h))
    have KK := Lib.hid (KK.out.chg X (fun _ _ h => h))
    have S_a := Lib.hid (S_a.out.chg X (fun _ _ h => h))
    have S_b := Lib.hid (S_b.out.chg X (fun _ _ h => h))
    have S_x := Lib.hid (S_x.out.chg X (fun _ _ h => h))
    have S_y := Lib.hid (S_y.out.chg X (fun _ _ h => h))
    have Y : Hid (Chg (fun _ => False) w w22) := Y.out.trans X (fun _ _ h => h)
    clear q X
    generalize refL (fun k => hasL k A && hasL k B) (bdsL (A ++ B)) = r at S_r PB
    obtain ⟨a_r, c_r, rfl⟩ := S_r.length
    clear S_r
    generalize r.length = nr at PB ⊢
    go_wp2_with fail
    go_meet
    exact ⟨by rw [PB.out], YS.out⟩
  case rest =>
    obtain ⟨rfl, X⟩ := hcut
    have H0 := Lib.hid (H0.out.chg X (fun _ _ h => h))
    have H1 := Lib.hid (H1.out.chg X (fun _ _ h => h))
    have KK := Lib.hid (KK.out.chg X (fun _ _ h => h))
    have S_a := Lib.hid (S_a.out.chg X (fun _ _ h => h))
    have S_b := Lib.hid (S_b.out.chg X (fun _ _ h => h))
    have Y : Hid (Chg (fun _ => False) w wc) := Y.out.trans X (fun _ _ h => h)
    clear X
    go_wp2
    go_loopg [14] m (fun kx s14 wr => ∃ t : Nat, s14 = .int .i64 t ∧ t ≤ m ∧ m - t ≤ kx ∧ Aside (Chg (fun _ => False) wc wr))
    case atStart => exact ⟨0, rfl, Nat.zero_le _, by omega, Chg.refl _ _⟩
    case round =>
      obtain ⟨t, rfl, ht, hg, YL⟩ := hrel
      have YL : Hid (Chg (fun _ => False) wc wr) := YL
      have z0 : (0 : Int) ≤ (t : Int) := by omega
      by_cases hlt : t < m
      · have z1 : (t : Int) < (m : Int) := by omega
        have htl : t < K.length := by rw [MK.out]; exact hlt
        have KW := Lib.hid (KK.out.chg YL.out (fun _ _ h => h))
        obtain ⟨kb, ko, kc, e, row⟩ := KW.out.loads (by omega)
        simp only [Value.slice.injEq] at e
        obtain ⟨rfl, hnn, rfl⟩ := e
        clear hnn
        have r1 : ∀ W, Chg (fun _ => False) wr W → Sem.run Try.prog (loadCellsFrom ⟨kb, ko + t * K24, none⟩ 0 K24 #[]) W = .ok (keyCells K[t]).toArray W := fun W X => (X.cells (row t htl) id).load _ K24 (keyCells_length _)
        obtain ⟨hb, hhb⟩ : ∃ r, hasL K[t] A = r := ⟨_, rfl⟩
        have HAS : Hid (∀ W, Chg (fun _ => False) wr W → Calls Try.prog 19 #[v_a, .agg (keyCells K[t]).toArray] W fun e w' => e = .returned (.bool hb) ∧ Chg (fun _ => False) W w') := fun W h =>
          (has_of K[t] v_a A W ((S_a.out.chg YL.out (fun _ _ h => h)).chg h (fun _ _ h => h)) (by have := lA.out; omega)).mono fun e w' ⟨he, hx⟩ => ⟨by rw [he, hhb], hx.chg _⟩
        have CUT : Hid (∀ W, Chg (fun _ => False) wr W → Calls Try.prog 11 #[v0] W fun e w' => ∃ v', e = .returned v' ∧ SpansIn w' v' A ∧ Chg (fun _ => False) W w') := fun W h => cut_spans v0 s0 A W ((H0.out.chg YL.out (fun _ _ h => h)).chg h (fun _ _ h => h)) EA.out
        have HSR : Hid (∀ W v, SpansIn W v A → Calls Try.prog 23 #[v, .agg (keyCells K[t]).toArray] W fun e w' => e = .returned (.bool hb) ∧ Chg (fun _ => False) W w') := fun W v h => by
          have := hasR_any K[t] v A W h (by have := lA.out; omega)
          rw [hhb] at this
          exact this
        have KD : Hid (Chg (fun _ => False) wr wr.drew) := (Ext.refl wr).drew.chg _
        generalize K[t] = k at r1 HAS HSR hhb
        clear hhb row
        go_upto_region 12 with fail
        refine wp_region_held_drew (S := fun W => Chg (fun _ => False) wr W) (by kernel_rfl) KD.out (fun hHeld => ?_)
        refine wpAnyH_take (i := 0) (oi := _) (v := ?vlp0) rfl (by kernel_rfl) (by kernel_rfl) (by kernel_rfl) (fun _ _ _ h => h) (Or.inl ⟨by rfl, ?ylp0⟩) (by assumption) ?rlp0
        case ylp0 => (intro w hSw; go_simp; try with_reducible rfl)
        (try simp only [List.getElem_toArray, List.getElem_cons_succ, List.getElem_cons_zero, Act.put, List.setIfInBounds_toArray, List.set_cons_zero, List.set_cons_succ])
        refine wpAnyH_take (i := 1) (oi := _) (v := ?vlp1) rfl (by kernel_rfl) (by kernel_rfl) (by kernel_rfl) (fun _ _ _ h => h) (Or.inl ⟨by rfl, ?ylp1⟩) (by assumption) ?rlp1
        case ylp1 => (intro w hSw; go_simp; try with_reducible rfl)
        (try simp only [List.getElem_toArray, List.getElem_cons_succ, List.getElem_cons_zero, Act.put, List.setIfInBounds_toArray, List.set_cons_zero, List.set_cons_succ])
        refine wpAnyH_take (i := 2) (oi := _) (v := ?vlp2) rfl (by kernel_rfl) (by kernel_rfl) (by kernel_rfl) (fun _ _ _ h => h) (Or.inl ⟨by rfl, ?ylp2⟩) (by assumption) ?rlp2
        case ylp2 => (intro w hSw; go_simp; try with_reducible rfl)
        (try simp only [List.getElem_toArray, List.getElem_cons_succ, List.getElem_cons_zero, Act.put, List.setIfInBounds_toArray, List.set_cons_zero, List.set_cons_succ])
        refine wpAnyH_take (i := 3) (oi := _) (v := ?vlp3) rfl (by kernel_rfl) (by kernel_rfl) (by kernel_rfl) (fun _ _ _ h => h) (Or.inl ⟨by rfl, ?ylp3⟩) (by assumption) ?rlp3
        case ylp3 => (intro w hSw; go_simp; try with_reducible rfl)
        (try simp only [List.getElem_toArray, List.getElem_cons_succ, List.getElem_cons_zero, Act.put, List.setIfInBounds_toArray, List.set_cons_zero, List.set_cons_succ])
        refine wpAnyH_take (i := 4) (oi := _) (v := ?vlp4) rfl (by kernel_rfl) (by kernel_rfl) (by kernel_rfl) (fun _ _ _ h => h) (Or.inl ⟨by rfl, ?ylp4⟩) (by assumption) ?rlp4
        case ylp4 => (intro w hSw; go_simp; try with_reducible rfl)
        (try simp only [List.getElem_toArray, List.getElem_cons_succ, List.getElem_cons_zero, Act.put, List.setIfInBounds_toArray, List.set_cons_zero, List.set_cons_succ])
        refine wpAnyH_take (i := 6) (oi := _) (v := ?vlp6) rfl (by kernel_rfl) (by kernel_rfl) (by kernel_rfl) (fun _ _ _ h => h) (Or.inl ⟨by rfl, ?ylp6⟩) (by assumption) ?rlp6
        case ylp6 => (intro w hSw; go_simp; try with_reducible rfl)
        (try simp only [List.getElem_toArray, List.getElem_cons_succ, List.getElem_cons_zero, Act.put, List.setIfInBounds_toArray, List.set_cons_zero, List.set_cons_succ])
        refine wpAnyH_take (i := 8) (oi := _) (v := ?vlp8) rfl (by kernel_rfl) (by kernel_rfl) (by kernel_rfl) (fun _ _ _ h => h) (Or.inl ⟨by rfl, ?ylp8⟩) (by assumption) ?rlp8
        case ylp8 => (intro w hSw; go_simp; try with_reducible rfl)
        (try simp only [List.getElem_toArray, List.getElem_cons_succ, List.getElem_cons_zero, Act.put, List.setIfInBounds_toArray, List.set_cons_zero, List.set_cons_succ])
        refine wpAnyH_take (i := 9) (oi := _) (v := ?vlp9) rfl (by kernel_rfl) (by kernel_rfl) (by kernel_rfl) (fun _ _ _ h => h) (Or.inl ⟨by rfl, ?ylp9⟩) (by assumption) ?rlp9
        case ylp9 => (intro w hSw; go_simp; try with_reducible rfl)
        (try simp only [List.getElem_toArray, List.getElem_cons_succ, List.getElem_cons_zero, Act.put, List.setIfInBounds_toArray, List.set_cons_zero, List.set_cons_succ])
        refine wpAnyH_take (i := 10) (oi := _) (v := ?vlp10) rfl (by kernel_rfl) (by kernel_rfl) (by kernel_rfl) (fun _ _ _ h => h) (Or.inl ⟨by rfl, ?ylp10⟩) (by assumption) ?rlp10
        case ylp10 => (intro w hSw; go_simp; try with_reducible rfl)
        (try simp only [List.getElem_toArray, List.getElem_cons_succ, List.getElem_cons_zero, Act.put, List.setIfInBounds_toArray, List.set_cons_zero, List.set_cons_succ])
        refine wpAnyH_take (i := 11) (oi := _) (v := ?vlp11) rfl (by kernel_rfl) (by kernel_rfl) (by kernel_rfl) (fun _ _ _ h => h) (Or.inl ⟨by rfl, ?ylp11⟩) (by assumption) ?rlp11
        case ylp11 => (intro w hSw; go_simp; try with_reducible rfl)
        (try simp only [List.getElem_toArray, List.getElem_cons_succ, List.getElem_cons_zero, Act.put, List.setIfInBounds_toArray, List.set_cons_zero, List.set_cons_succ])
        refine wpAnyH_ready (rs := [5]) (by kernel_rfl) (by simp) ?_
        refine AllReadyH.cons (o := _) rfl (fun K hK => ?_) AllReadyH.nil
        (try simp only [List.getElem_toArray, List.getElem_cons_succ, List.getElem_cons_zero])
        go_simp
        refine (HAS.out _ (by assumption)).mono ?_
        rintro e wA ⟨rfl, XA⟩
        have XA : Hid (Chg (fun _ => False) wr wA) := hHeld.trans XA (fun _ _ h => h)
        refine hK.out _ _ ?_ (fun hHeld => ?_)
        · exact XA.out
        clear hK K
        (try simp only [List.getElem_toArray, List.getElem_cons_succ, List.getElem_cons_zero, Act.put, List.setIfInBounds_toArray, List.set_cons_zero, List.set_cons_succ])
        refine wpAnyH_ready (rs := [7]) (by kernel_rfl) (by simp) ?_
        refine AllReadyH.cons (o := _) rfl (fun K hK => ?_) AllReadyH.nil
        (try simp only [List.getElem_toArray, List.getElem_cons_succ, List.getElem_cons_zero])
        go_simp
        refine (CUT.out _ (by assumption)).mono ?_
        rintro e wB ⟨vx, rfl, SX, XB⟩
        have XB : Hid (Chg (fun _ => False) wr wB) := XA.out.trans XB (fun _ _ h => h)
        have HSX := Lib.hid (HSR.out wB vx SX)
        clear SX
        refine hK.out _ _ ?_ (fun hHeld => ?_)
        · exact XB.out
        clear hK K
        (try simp only [List.getElem_toArray, List.getElem_cons_succ, List.getElem_cons_zero, Act.put, List.setIfInBounds_toArray, List.set_cons_zero, List.set_cons_succ])
        refine wpAnyH_ready (rs := [12]) (by kernel_rfl) (by simp) ?_
        refine AllReadyH.cons (o := _) rfl (fun K hK => ?_) AllReadyH.nil
        (try simp only [List.getElem_toArray, List.getElem_cons_succ, List.getElem_cons_zero])
        go_simp
        refine HSX.out.mono ?_
        rintro e wD ⟨rfl, XD⟩
        have XD : Hid (Chg (fun _ => False) wr wD) := XB.out.trans XD (fun _ _ h => h)
        refine hK.out _ _ ?_ (fun hHeld => ?_)
        · exact XD.out
        clear hK K
        (try simp only [List.getElem_toArray, List.getElem_cons_succ, List.getElem_cons_zero, Act.put, List.setIfInBounds_toArray, List.set_cons_zero, List.set_cons_succ])
        refine wpAnyH_take (i := 13) (oi := _) (v := ?vlp13) rfl (by kernel_rfl) (by kernel_rfl) (by kernel_rfl) (fun _ _ _ h => h) (Or.inl ⟨by rfl, ?ylp13⟩) (by assumption) ?rlp13
        case ylp13 => (intro w hSw; go_simp; try with_reducible rfl)
        (try simp only [List.getElem_toArray, List.getElem_cons_succ, List.getElem_cons_zero, Act.put, List.setIfInBounds_toArray, List.set_cons_zero, List.set_cons_succ])
        refine wpAnyH_done (by kernel_rfl) ?_ _
        clear r1 HAS CUT HSR HSX KD
        have Y2 : Hid (Chg (fun _ => False) wc wD) := YL.out.trans XD.out (fun _ _ h => h)
        go_wp2
        go_roundg (m - (t + 1))
        case measure => omega
        case rel => exact ⟨t + 1, by go_num, by omega, Nat.le_refl _, Y2.out⟩
      · obtain rfl : t = m := by omega
        have z1 : ¬ (t : Int) < (t : Int) := by omega
        have X := YL.out
        clear YL
        have H0 := Lib.hid (H0.out.chg X (fun _ _ h => h))
        have H1 := Lib.hid (H1.out.chg X (fun _ _ h => h))
        have KK := Lib.hid (KK.out.chg X (fun _ _ h => h))
        have S_a := Lib.hid (S_a.out.chg X (fun _ _ h => h))
        have S_b := Lib.hid (S_b.out.chg X (fun _ _ h => h))
        have Y : Hid (Chg (fun _ => False) w wr) := Y.out.trans X (fun _ _ h => h)
        clear X
        have q := Lib.hid (cut_spans v0 s0 A wr H0.out EA.out)
        go_wp2_with fail
        refine q.out.mono ?_
        rintro e w23 ⟨v_x, rfl, S_x, X⟩
        have H0 := Lib.hid (H0.out.chg X (fun _ _ h => h))
        have H1 := Lib.hid (H1.out.chg X (fun _ _ h => h))
        have KK := Lib.hid (KK.out.chg X (fun _ _ h => h))
        have S_a := Lib.hid (S_a.out.chg X (fun _ _ h => h))
        have S_b := Lib.hid (S_b.out.chg X (fun _ _ h => h))
        have Y : Hid (Chg (fun _ => False) w w23) := Y.out.trans X (fun _ _ h => h)
        clear q X
        have S_x := Lib.hid S_x
        have qs := same_of v_a v_x A A w23 S_a.out S_x.out (by have := lA.out; omega) (by have := lA.out; omega)
        rw [decide_eq_true (Eq.refl A)] at qs
        have q := Lib.hid (qs)
        go_wp2_with fail
        refine q.out.mono ?_
        rintro e w24 ⟨rfl, X⟩
        have H0 := Lib.hid (H0.out.chg X (fun _ _ h => h))
        have H1 := Lib.hid (H1.out.chg X (fun _ _ h => h))
        have KK := Lib.hid (KK.out.chg X (fun _ _ h => h))
        have S_a := Lib.hid (S_a.out.chg X (fun _ _ h => h))
        have S_b := Lib.hid (S_b.out.chg X (fun _ _ h => h))
        have S_x := Lib.hid (S_x.out.chg X (fun _ _ h => h))
        have Y : Hid (Chg (fun _ => False) w w24) := Y.out.trans X (fun _ _ h => h)
        clear q X
        clear qs
        clear S_x
        have q := Lib.hid (cut_spans v1 s1 B w24 H1.out EB.out)
        go_wp2_with fail
        refine q.out.mono ?_
        rintro e w25 ⟨v_y, rfl, S_y, X⟩
        have H0 := Lib.hid (H0.out.chg X (fun _ _ h => h))
        have H1 := Lib.hid (H1.out.chg X (fun _ _ h => h))
        have KK := Lib.hid (KK.out.chg X (fun _ _ h => h))
        have S_a := Lib.hid (S_a.out.chg X (fun _ _ h => h))
        have S_b := Lib.hid (S_b.out.chg X (fun _ _ h => h))
        have Y : Hid (Chg (fun _ => False) w w25) := Y.out.trans X (fun _ _ h => h)
        clear q X
        have S_y := Lib.hid S_y
        have qs := same_of v_b v_y B B w25 S_b.out S_y.out (by have := lB.out; omega) (by have := lB.out; omega)
        rw [decide_eq_true (Eq.refl B)] at qs
        have q := Lib.hid (qs)
        go_wp2_with fail
        refine q.out.mono ?_
        rintro e w26 ⟨rfl, X⟩
        have H0 := Lib.hid (H0.out.chg X (fun _ _ h => h))
        have H1 := Lib.hid (H1.out.chg X (fun _ _ h => h))
        have KK := Lib.hid (KK.out.chg X (fun _ _ h => h))
        have S_a := Lib.hid (S_a.out.chg X (fun _ _ h => h))
        have S_b := Lib.hid (S_b.out.chg X (fun _ _ h => h))
        have S_y := Lib.hid (S_y.out.chg X (fun _ _ h => h))
        have Y : Hid (Chg (fun _ => False) w w26) := Y.out.trans X (fun _ _ h => h)
        clear q X
        clear qs
        clear S_y
        have TQ : Calls Try.prog 17 #[v_a, v_b] w26 fun e w' => e = .returned (.bool pb) ∧ Chg (fun _ => False) w26 w' :=
          (touch_of v_a v_b A B w26 S_a.out S_b.out (by have := lA.out; omega) (by have := lB.out; omega)).mono fun e w' ⟨out, he, hz, hx⟩ => ⟨by rw [he, (tells_both hz).unique (ref_both A B) (fun n => Iff.rfl), PB.out], hx⟩
        have q := Lib.hid (TQ)
        go_wp2_with fail
        refine q.out.mono ?_
        rintro e w27 ⟨rfl, X⟩
        have H0 := Lib.hid (H0.out.chg X (fun _ _ h => h))
        have H1 := Lib.hid (H1.out.chg X (fun _ _ h => h))
        have KK := Lib.hid (KK.out.chg X (fun _ _ h => h))
        have S_a := Lib.hid (S_a.out.chg X (fun _ _ h => h))
        have S_b := Lib.hid (S_b.out.chg X (fun _ _ h => h))
        have Y : Hid (Chg (fun _ => False) w w27) := Y.out.trans X (fun _ _ h => h)
        clear q X
        clear TQ
        obtain ⟨ab, hab⟩ : ∃ r, anyL A K = r := ⟨_, rfl⟩
        have AQ : Calls Try.prog 24 #[v_a, .slice ka t kc0] w27 fun e w' => e = .returned (.bool ab) ∧ Chg (fun _ => False) w27 w' :=
          (any_of v_a (.slice ka t kc0) A K w27 S_a.out (by have := lA.out; omega) KK.out (by rw [MK.out]; omega)).mono fun e w' ⟨he, hx⟩ => ⟨by rw [he, hab], hx.chg _⟩
        have HAB := Lib.hid hab
        clear hab
        have q := Lib.hid (AQ)
        go_wp2_with fail
        refine q.out.mono ?_
        rintro e w28 ⟨rfl, X⟩
        have H0 := Lib.hid (H0.out.chg X (fun _ _ h => h))
        have H1 := Lib.hid (H1.out.chg X (fun _ _ h => h))
        have KK := Lib.hid (KK.out.chg X (fun _ _ h => h))
        have S_a := Lib.hid (S_a.out.chg X (fun _ _ h => h))
        have S_b := Lib.hid (S_b.out.chg X (fun _ _ h => h))
        have Y : Hid (Chg (fun _ => False) w w28) := Y.out.trans X (fun _ _ h => h)
        clear q X
        clear AQ
        have q := Lib.hid (cut_spans v0 s0 A w28 H0.out EA.out)
        go_wp2_with fail
        refine q.out.mono ?_
        rintro e w29 ⟨v_x, rfl, S_x, X⟩
        have H0 := Lib.hid (H0.out.chg X (fun _ _ h => h))
        have H1 := Lib.hid (H1.out.chg X (fun _ _ h => h))
        have KK := Lib.hid (KK.out.chg X (fun _ _ h => h))
        have S_a := Lib.hid (S_a.out.chg X (fun _ _ h => h))
        have S_b := Lib.hid (S_b.out.chg X (fun _ _ h => h))
        have Y : Hid (Chg (fun _ => False) w w29) := Y.out.trans X (fun _ _ h => h)
        clear q X
        have S_x := Lib.hid S_x
        have BQ := anyR_any v_x (.slice ka t kc0) A K w29 S_x.out (by have := lA.out; omega) KK.out (by rw [MK.out]; omega)
        rw [HAB.out] at BQ
        have q := Lib.hid (BQ)
        go_wp2_with fail
        refine q.out.mono ?_
        rintro e w30 ⟨rfl, X⟩
        have H0 := Lib.hid (H0.out.chg X (fun _ _ h => h))
        have H1 := Lib.hid (H1.out.chg X (fun _ _ h => h))
        have KK := Lib.hid (KK.out.chg X (fun _ _ h => h))
        have S_a := Lib.hid (S_a.out.chg X (fun _ _ h => h))
        have S_b := Lib.hid (S_b.out.chg X (fun _ _ h => h))
        have S_x := Lib.hid (S_x.out.chg X (fun _ _ h => h))
        have Y : Hid (Chg (fun _ => False) w w30) := Y.out.trans X (fun _ _ h => h)
        clear q X
        clear BQ
        go_wp2
        go_ret
        exact ⟨rfl, Y.out⟩
end Go.Proofs.Ytfeomnkgkppdlaa
