/- The walk of SpanBoth. -/
import Derived.Test.YtfeomnkgkppdlaaSpShown
import Derived.Test.YtfeomnkgkppdlaaSpJoin
set_option linter.unusedVariables false
set_option linter.unusedSimpArgs false
namespace Go.Proofs.Ytfeomnkgkppdlaa
open Go Go.RowKit Go.Sort Go.Lib
attribute [local go_sem ↓] run_size24 run_size49 run_size25
attribute [local simp high] run_size24x run_size49x run_size25x
attribute [local go_sem ↓] to_span1 to_span2 to_span3 to_key1 to_spans1 to_keys1 to_bd0 to_bd1
attribute [local simp] is_bFrEn is_bTo is_bEn is_bFrTo is_bSpans1 is_bKeys1 run_bFrEn run_bTo run_bEn run_bFrTo run_bSpans1 run_bKeys1 is_bBdKey is_bBdEn is_bSp3 run_bBdKey run_bBdEn run_bBd0 run_bSp3

set_option maxHeartbeats 8000000 in
set_option maxRecDepth 100000 in
theorem boths_any (v0 v1 v2 : Value) (s0 s1 s2 : List Sp) (w : World) (h0 : SpansIn w v0 s0) (h1 : SpansIn w v1 s1) (h2 : SpansIn w v2 s2) :
    Calls Try.prog 6 #[v0, v1, v2] w fun e w' => e = .returned (.bool true) ∧ Chg (fun _ => False) w w' := by
  have k1 : ¬ K24 = 0 := by decide
  have k2 : ¬ K49 = 0 := by decide
  obtain ⟨p_a, k_a, rfl, cu_a, C_a⟩ := h0.cut 10
  have cu_a : ∀ W, (Instr.sliceAt 22 (.slice p_a s0.length k_a) none (some (.int .i64 (min (s0.length : Int) 10))) none).run Try.prog W = .ok (.slice p_a (min s0.length 10) k_a) W := cu_a
  have l_a : Hid ((s0.take 10).length ≤ 10) := by show _ ≤ _; rw [List.length_take]; omega
  have S_a := Lib.hid C_a
  clear C_a h0
  generalize min s0.length 10 = n_a at cu_a S_a
  generalize s0.take 10 = a at S_a l_a
  obtain ⟨p_b, k_b, rfl, cu_b, C_b⟩ := h1.cut 10
  have cu_b : ∀ W, (Instr.sliceAt 22 (.slice p_b s1.length k_b) none (some (.int .i64 (min (s1.length : Int) 10))) none).run Try.prog W = .ok (.slice p_b (min s1.length 10) k_b) W := cu_b
  have l_b : Hid ((s1.take 10).length ≤ 10) := by show _ ≤ _; rw [List.length_take]; omega
  have S_b := Lib.hid C_b
  clear C_b h1
  generalize min s1.length 10 = n_b at cu_b S_b
  generalize s1.take 10 = b at S_b l_b
  obtain ⟨p_c, k_c, rfl, cu_c, C_c⟩ := h2.cut 10
  have cu_c : ∀ W, (Instr.sliceAt 22 (.slice p_c s2.length k_c) none (some (.int .i64 (min (s2.length : Int) 10))) none).run Try.prog W = .ok (.slice p_c (min s2.length 10) k_c) W := cu_c
  have l_c : Hid ((s2.take 10).length ≤ 10) := by show _ ≤ _; rw [List.length_take]; omega
  have S_c := Lib.hid C_c
  clear C_c h2
  generalize min s2.length 10 = n_c at cu_c S_c
  generalize s2.take 10 = c at S_c l_c
  go_enter Try.func6, Try.ntmps6
  have q1 := Lib.hid (shown_any w)
  go_wp2_with fail
  refine q1.out.mono ?_
  rintro e w1 ⟨rfl, X⟩
  have S_a := Lib.hid (S_a.out.chg X (fun _ _ h => h))
  have S_b := Lib.hid (S_b.out.chg X (fun _ _ h => h))
  have S_c := Lib.hid (S_c.out.chg X (fun _ _ h => h))
  have Y : Hid (Chg (fun _ => False) w w1) := X
  clear q1 X
  have q2 := Lib.hid (both_of (.slice p_b n_b k_b) (.slice p_c n_c k_c) b c w1 S_b.out S_c.out (by have := l_b.out; omega) (by have := l_c.out; omega))
  go_wp2_with fail
  refine q2.out.mono ?_
  rintro e w2 ⟨v_d, d, rfl, Z_d, S_d, X⟩
  have S_a := Lib.hid (S_a.out.chg X (fun _ _ h => h))
  have S_b := Lib.hid (S_b.out.chg X (fun _ _ h => h))
  have S_c := Lib.hid (S_c.out.chg X (fun _ _ h => h))
  have Y : Hid (Chg (fun _ => False) w w2) := Y.out.trans X (fun _ _ h => h)
  clear q2 X
  have S_d := Lib.hid S_d
  have T_d : Hid (Tells d (fun n => (mem n (NL b)) ∧ (mem n (NL c)))) := (tells_both Z_d).to (fun n => Iff.rfl)
  have M_d : Hid (∀ n, mem n (NL d) ↔ ((mem n (NL b)) ∧ (mem n (NL c)))) := T_d.out.2.2
  have l_d : Hid (d.length ≤ 20) := by have h := Z_d.length; have h_b := l_b.out; have h_c := l_c.out; show _ ≤ _; omega
  clear Z_d
  have q3 := Lib.hid (both_of (.slice p_a n_a k_a) v_d a d w2 S_a.out S_d.out (by have := l_a.out; omega) (by have := l_d.out; omega))
  go_wp2_with fail
  refine q3.out.mono ?_
  rintro e w3 ⟨v_e, e, rfl, Z_e, S_e, X⟩
  have S_a := Lib.hid (S_a.out.chg X (fun _ _ h => h))
  have S_b := Lib.hid (S_b.out.chg X (fun _ _ h => h))
  have S_c := Lib.hid (S_c.out.chg X (fun _ _ h => h))
  have S_d := Lib.hid (S_d.out.chg X (fun _ _ h => h))
  have Y : Hid (Chg (fun _ => False) w w3) := Y.out.trans X (fun _ _ h => h)
  clear q3 X
  have S_e := Lib.hid S_e
  have T_e : Hid (Tells e (fun n => (mem n (NL a)) ∧ ((mem n (NL b)) ∧ (mem n (NL c))))) := (tells_both Z_e).to (fun n => by simp only [M_d.out n])
  have M_e : Hid (∀ n, mem n (NL e) ↔ ((mem n (NL a)) ∧ ((mem n (NL b)) ∧ (mem n (NL c))))) := T_e.out.2.2
  have l_e : Hid (e.length ≤ 30) := by have h := Z_e.length; have h_a := l_a.out; have h_d := l_d.out; show _ ≤ _; omega
  clear Z_e
  clear S_d
  have q4 := Lib.hid (both_of (.slice p_a n_a k_a) (.slice p_b n_b k_b) a b w3 S_a.out S_b.out (by have := l_a.out; omega) (by have := l_b.out; omega))
  go_wp2_with fail
  refine q4.out.mono ?_
  rintro e w4 ⟨v_f, f, rfl, Z_f, S_f, X⟩
  have S_a := Lib.hid (S_a.out.chg X (fun _ _ h => h))
  have S_b := Lib.hid (S_b.out.chg X (fun _ _ h => h))
  have S_c := Lib.hid (S_c.out.chg X (fun _ _ h => h))
  have S_e := Lib.hid (S_e.out.chg X (fun _ _ h => h))
  have Y : Hid (Chg (fun _ => False) w w4) := Y.out.trans X (fun _ _ h => h)
  clear q4 X
  have S_f := Lib.hid S_f
  have T_f : Hid (Tells f (fun n => (mem n (NL a)) ∧ (mem n (NL b)))) := (tells_both Z_f).to (fun n => Iff.rfl)
  have M_f : Hid (∀ n, mem n (NL f) ↔ ((mem n (NL a)) ∧ (mem n (NL b)))) := T_f.out.2.2
  have l_f : Hid (f.length ≤ 20) := by have h := Z_f.length; have h_a := l_a.out; have h_b := l_b.out; show _ ≤ _; omega
  clear Z_f
  have q5 := Lib.hid (both_of v_f (.slice p_c n_c k_c) f c w4 S_f.out S_c.out (by have := l_f.out; omega) (by have := l_c.out; omega))
  go_wp2_with fail
  refine q5.out.mono ?_
  rintro e w5 ⟨v_g, g, rfl, Z_g, S_g, X⟩
  have S_a := Lib.hid (S_a.out.chg X (fun _ _ h => h))
  have S_b := Lib.hid (S_b.out.chg X (fun _ _ h => h))
  have S_c := Lib.hid (S_c.out.chg X (fun _ _ h => h))
  have S_e := Lib.hid (S_e.out.chg X (fun _ _ h => h))
  have S_f := Lib.hid (S_f.out.chg X (fun _ _ h => h))
  have Y : Hid (Chg (fun _ => False) w w5) := Y.out.trans X (fun _ _ h => h)
  clear q5 X
  have S_g := Lib.hid S_g
  have T_g : Hid (Tells g (fun n => ((mem n (NL a)) ∧ (mem n (NL b))) ∧ (mem n (NL c)))) := (tells_both Z_g).to (fun n => by simp only [M_f.out n])
  have M_g : Hid (∀ n, mem n (NL g) ↔ (((mem n (NL a)) ∧ (mem n (NL b))) ∧ (mem n (NL c)))) := T_g.out.2.2
  have l_g : Hid (g.length ≤ 30) := by have h := Z_g.length; have h_f := l_f.out; have h_c := l_c.out; show _ ≤ _; omega
  clear Z_g
  clear S_f
  have E : Hid (e = g) := T_e.out.unique T_g.out (fun n => by by_cases h_a : mem n (NL a) <;> by_cases h_b : mem n (NL b) <;> by_cases h_c : mem n (NL c) <;> simp [h_a, h_b, h_c])
  have qs := same_of v_e v_g e g w5 S_e.out S_g.out (by have := l_e.out; omega) (by have := l_g.out; omega)
  rw [decide_eq_true E.out] at qs
  have q6 := Lib.hid (qs)
  go_wp2_with fail
  refine q6.out.mono ?_
  rintro e w6 ⟨rfl, X⟩
  have S_a := Lib.hid (S_a.out.chg X (fun _ _ h => h))
  have S_b := Lib.hid (S_b.out.chg X (fun _ _ h => h))
  have S_c := Lib.hid (S_c.out.chg X (fun _ _ h => h))
  have S_e := Lib.hid (S_e.out.chg X (fun _ _ h => h))
  have S_g := Lib.hid (S_g.out.chg X (fun _ _ h => h))
  have Y : Hid (Chg (fun _ => False) w w6) := Y.out.trans X (fun _ _ h => h)
  clear q6 X
  clear qs E
  clear S_e S_g
  have q7 := Lib.hid (both_of (.slice p_a n_a k_a) (.slice p_a n_a k_a) a a w6 S_a.out S_a.out (by have := l_a.out; omega) (by have := l_a.out; omega))
  go_wp2_with fail
  refine q7.out.mono ?_
  rintro e w7 ⟨v_d1, d1, rfl, Z_d1, S_d1, X⟩
  have S_a := Lib.hid (S_a.out.chg X (fun _ _ h => h))
  have S_b := Lib.hid (S_b.out.chg X (fun _ _ h => h))
  have S_c := Lib.hid (S_c.out.chg X (fun _ _ h => h))
  have Y : Hid (Chg (fun _ => False) w w7) := Y.out.trans X (fun _ _ h => h)
  clear q7 X
  have S_d1 := Lib.hid S_d1
  have T_d1 : Hid (Tells d1 (fun n => (mem n (NL a)) ∧ (mem n (NL a)))) := (tells_both Z_d1).to (fun n => Iff.rfl)
  have M_d1 : Hid (∀ n, mem n (NL d1) ↔ ((mem n (NL a)) ∧ (mem n (NL a)))) := T_d1.out.2.2
  have l_d1 : Hid (d1.length ≤ 20) := by have h := Z_d1.length; have h_a := l_a.out; show _ ≤ _; omega
  clear Z_d1
  have q8 := Lib.hid (clean_spans (.slice p_a n_a k_a) a w7 S_a.out (by have := l_a.out; omega))
  go_wp2_with fail
  refine q8.out.mono ?_
  rintro e w8 ⟨v_e1, e1, rfl, Z_e1, S_e1, X⟩
  have S_a := Lib.hid (S_a.out.chg X (fun _ _ h => h))
  have S_b := Lib.hid (S_b.out.chg X (fun _ _ h => h))
  have S_c := Lib.hid (S_c.out.chg X (fun _ _ h => h))
  have S_d1 := Lib.hid (S_d1.out.chg X (fun _ _ h => h))
  have Y : Hid (Chg (fun _ => False) w w8) := Y.out.trans X (fun _ _ h => h)
  clear q8 X
  have S_e1 := Lib.hid S_e1
  have T_e1 : Hid (Tells e1 (fun n => mem n (NL a))) := (tells_clean Z_e1).to (fun n => Iff.rfl)
  have M_e1 : Hid (∀ n, mem n (NL e1) ↔ (mem n (NL a))) := T_e1.out.2.2
  have l_e1 : Hid (e1.length ≤ 10) := by have h := Z_e1.length; have h_a := l_a.out; show _ ≤ _; omega
  clear Z_e1
  have E : Hid (d1 = e1) := T_d1.out.unique T_e1.out (fun n => by by_cases h_a : mem n (NL a) <;> simp [h_a])
  have qs := same_of v_d1 v_e1 d1 e1 w8 S_d1.out S_e1.out (by have := l_d1.out; omega) (by have := l_e1.out; omega)
  rw [decide_eq_true E.out] at qs
  have q9 := Lib.hid (qs)
  go_wp2_with fail
  refine q9.out.mono ?_
  rintro e w9 ⟨rfl, X⟩
  have S_a := Lib.hid (S_a.out.chg X (fun _ _ h => h))
  have S_b := Lib.hid (S_b.out.chg X (fun _ _ h => h))
  have S_c := Lib.hid (S_c.out.chg X (fun _ _ h => h))
  have S_d1 := Lib.hid (S_d1.out.chg X (fun _ _ h => h))
  have S_e1 := Lib.hid (S_e1.out.chg X (fun _ _ h => h))
  have Y : Hid (Chg (fun _ => False) w w9) := Y.out.trans X (fun _ _ h => h)
  clear q9 X
  clear qs E
  clear S_d1 S_e1
  have q10 := Lib.hid (join_of (.slice p_b n_b k_b) (.slice p_c n_c k_c) b c w9 S_b.out S_c.out (by have := l_b.out; omega) (by have := l_c.out; omega))
  go_wp2_with fail
  refine q10.out.mono ?_
  rintro e w10 ⟨v_j, rfl, S_j, X⟩
  have S_a := Lib.hid (S_a.out.chg X (fun _ _ h => h))
  have S_b := Lib.hid (S_b.out.chg X (fun _ _ h => h))
  have S_c := Lib.hid (S_c.out.chg X (fun _ _ h => h))
  have Y : Hid (Chg (fun _ => False) w w10) := Y.out.trans X (fun _ _ h => h)
  clear q10 X
  have S_j := Lib.hid S_j
  have l_j : Hid ((b ++ c).length ≤ 20) := by have h1 := l_b.out; have h2 := l_c.out; show _ ≤ _; rw [List.length_append]; omega
  have M_j : Hid (∀ n, mem n (NL (b ++ c)) ↔ ((mem n (NL b)) ∨ (mem n (NL c)))) := fun n => by simp only [NL_append, mem_append]
  generalize b ++ c = j at l_j M_j S_j
  have q11 := Lib.hid (less_of (.slice p_a n_a k_a) v_j a j w10 S_a.out S_j.out (by have := l_a.out; omega) (by have := l_j.out; omega))
  go_wp2_with fail
  refine q11.out.mono ?_
  rintro e w11 ⟨v_d2, d2, rfl, Z_d2, S_d2, X⟩
  have S_a := Lib.hid (S_a.out.chg X (fun _ _ h => h))
  have S_b := Lib.hid (S_b.out.chg X (fun _ _ h => h))
  have S_c := Lib.hid (S_c.out.chg X (fun _ _ h => h))
  have S_j := Lib.hid (S_j.out.chg X (fun _ _ h => h))
  have Y : Hid (Chg (fun _ => False) w w11) := Y.out.trans X (fun _ _ h => h)
  clear q11 X
  have S_d2 := Lib.hid S_d2
  have T_d2 : Hid (Tells d2 (fun n => (mem n (NL a)) ∧ ¬ ((mem n (NL b)) ∨ (mem n (NL c))))) := (tells_less Z_d2).to (fun n => by simp only [M_j.out n])
  have M_d2 : Hid (∀ n, mem n (NL d2) ↔ ((mem n (NL a)) ∧ ¬ ((mem n (NL b)) ∨ (mem n (NL c))))) := T_d2.out.2.2
  have l_d2 : Hid (d2.length ≤ 31) := by have h := Z_d2.length; have h_a := l_a.out; have h_j := l_j.out; show _ ≤ _; omega
  clear Z_d2
  clear S_j
  have q12 := Lib.hid (less_of (.slice p_a n_a k_a) (.slice p_b n_b k_b) a b w11 S_a.out S_b.out (by have := l_a.out; omega) (by have := l_b.out; omega))
  go_wp2_with fail
  refine q12.out.mono ?_
  rintro e w12 ⟨v_e2, e2, rfl, Z_e2, S_e2, X⟩
  have S_a := Lib.hid (S_a.out.chg X (fun _ _ h => h))
  have S_b := Lib.hid (S_b.out.chg X (fun _ _ h => h))
  have S_c := Lib.hid (S_c.out.chg X (fun _ _ h => h))
  have S_d2 := Lib.hid (S_d2.out.chg X (fun _ _ h => h))
  have Y : Hid (Chg (fun _ => False) w w12) := Y.out.trans X (fun _ _ h => h)
  clear q12 X
  have S_e2 := Lib.hid S_e2
  have T_e2 : Hid (Tells e2 (fun n => (mem n (NL a)) ∧ ¬ (mem n (NL b)))) := (tells_less Z_e2).to (fun n => Iff.rfl)
  have M_e2 : Hid (∀ n, mem n (NL e2) ↔ ((mem n (NL a)) ∧ ¬ (mem n (NL b)))) := T_e2.out.2.2
  have l_e2 : Hid (e2.length ≤ 21) := by have h := Z_e2.length; have h_a := l_a.out; have h_b := l_b.out; show _ ≤ _; omega
  clear Z_e2
  have q13 := Lib.hid (less_of v_e2 (.slice p_c n_c k_c) e2 c w12 S_e2.out S_c.out (by have := l_e2.out; omega) (by have := l_c.out; omega))
  go_wp2_with fail
  refine q13.out.mono ?_
  rintro e w13 ⟨v_f2, f2, rfl, Z_f2, S_f2, X⟩
  have S_a := Lib.hid (S_a.out.chg X (fun _ _ h => h))
  have S_b := Lib.hid (S_b.out.chg X (fun _ _ h => h))
  have S_c := Lib.hid (S_c.out.chg X (fun _ _ h => h))
  have S_d2 := Lib.hid (S_d2.out.chg X (fun _ _ h => h))
  have S_e2 := Lib.hid (S_e2.out.chg X (fun _ _ h => h))
  have Y : Hid (Chg (fun _ => False) w w13) := Y.out.trans X (fun _ _ h => h)
  clear q13 X
  have S_f2 := Lib.hid S_f2
  have T_f2 : Hid (Tells f2 (fun n => ((mem n (NL a)) ∧ ¬ (mem n (NL b))) ∧ ¬ (mem n (NL c)))) := (tells_less Z_f2).to (fun n => by simp only [M_e2.out n])
  have M_f2 : Hid (∀ n, mem n (NL f2) ↔ (((mem n (NL a)) ∧ ¬ (mem n (NL b))) ∧ ¬ (mem n (NL c)))) := T_f2.out.2.2
  have l_f2 : Hid (f2.length ≤ 32) := by have h := Z_f2.length; have h_e2 := l_e2.out; have h_c := l_c.out; show _ ≤ _; omega
  clear Z_f2
  clear S_e2
  have E : Hid (d2 = f2) := T_d2.out.unique T_f2.out (fun n => by by_cases h_a : mem n (NL a) <;> by_cases h_b : mem n (NL b) <;> by_cases h_c : mem n (NL c) <;> simp [h_a, h_b, h_c])
  have qs := same_of v_d2 v_f2 d2 f2 w13 S_d2.out S_f2.out (by have := l_d2.out; omega) (by have := l_f2.out; omega)
  rw [decide_eq_true E.out] at qs
  have q14 := Lib.hid (qs)
  go_wp2_with fail
  refine q14.out.mono ?_
  rintro e w14 ⟨rfl, X⟩
  have S_a := Lib.hid (S_a.out.chg X (fun _ _ h => h))
  have S_b := Lib.hid (S_b.out.chg X (fun _ _ h => h))
  have S_c := Lib.hid (S_c.out.chg X (fun _ _ h => h))
  have S_d2 := Lib.hid (S_d2.out.chg X (fun _ _ h => h))
  have S_f2 := Lib.hid (S_f2.out.chg X (fun _ _ h => h))
  have Y : Hid (Chg (fun _ => False) w w14) := Y.out.trans X (fun _ _ h => h)
  clear q14 X
  clear qs E
  clear S_d2 S_f2
  have q15 := Lib.hid (less_of (.slice p_a n_a k_a) (.slice p_a n_a k_a) a a w14 S_a.out S_a.out (by have := l_a.out; omega) (by have := l_a.out; omega))
  go_wp2_with fail
  refine q15.out.mono ?_
  rintro e w15 ⟨v_d3, d3, rfl, Z_d3, S_d3, X⟩
  have S_a := Lib.hid (S_a.out.chg X (fun _ _ h => h))
  have S_b := Lib.hid (S_b.out.chg X (fun _ _ h => h))
  have S_c := Lib.hid (S_c.out.chg X (fun _ _ h => h))
  have Y : Hid (Chg (fun _ => False) w w15) := Y.out.trans X (fun _ _ h => h)
  clear q15 X
  have S_d3 := Lib.hid S_d3
  have T_d3 : Hid (Tells d3 (fun n => (mem n (NL a)) ∧ ¬ (mem n (NL a)))) := (tells_less Z_d3).to (fun n => Iff.rfl)
  have M_d3 : Hid (∀ n, mem n (NL d3) ↔ ((mem n (NL a)) ∧ ¬ (mem n (NL a)))) := T_d3.out.2.2
  have l_d3 : Hid (d3.length ≤ 21) := by have h := Z_d3.length; have h_a := l_a.out; show _ ≤ _; omega
  clear Z_d3
  have E : d3 = [] := T_d3.out.empty (fun n => by by_cases h_a : mem n (NL a) <;> simp [h_a])
  subst E
  obtain ⟨a_d3, c_d3, rfl⟩ := S_d3.out.length
  clear S_d3
  go_wp2
  go_ret
  exact ⟨rfl, Y.out⟩
end Go.Proofs.Ytfeomnkgkppdlaa
