/- The walk of SpanJoins. -/
import Derived.Test.YtfeomnkgkppdlaaSpShown
import Derived.Test.YtfeomnkgkppdlaaSpJoin
import Derived.Test.YtfeomnkgkppdlaaSpHas
set_option linter.unusedVariables false
set_option linter.unusedSimpArgs false
namespace Go.Proofs.Ytfeomnkgkppdlaa
open Go Go.RowKit Go.Sort Go.Lib
attribute [local go_sem ↓] run_size24 run_size49 run_size25
attribute [local simp high] run_size24x run_size49x run_size25x
attribute [local go_sem ↓] to_span1 to_span2 to_span3 to_key1 to_spans1 to_keys1 to_bd0 to_bd1
attribute [local simp] is_bFrEn is_bTo is_bEn is_bFrTo is_bSpans1 is_bKeys1 run_bFrEn run_bTo run_bEn run_bFrTo run_bSpans1 run_bKeys1 is_bBdKey is_bBdEn is_bSp3 run_bBdKey run_bBdEn run_bBd0 run_bSp3

theorem has_ofC (k : Key) (v : Value) (ss : List Sp) (r : Bool) (w : World) (hs : SpansIn w v ss) (hn : ss.length ≤ 1000000) (hr : hasL k ss = r) :
    Calls Try.prog 19 #[v, .agg (keyCells k).toArray] w fun e w' => e = .returned (.bool r) ∧ Chg (fun _ => False) w w' :=
  (has_of k v ss w hs hn).mono fun e w' ⟨he, hx⟩ => ⟨by rw [he, hr], hx.chg _⟩
set_option maxHeartbeats 8000000 in
set_option maxRecDepth 100000 in
theorem joins_any (v0 v1 v2 : Value) (s0 s1 s2 : List Sp) (key : Key) (w : World) (h0 : SpansIn w v0 s0) (h1 : SpansIn w v1 s1) (h2 : SpansIn w v2 s2) :
    Calls Try.prog 7 #[v0, v1, v2, keyV key] w fun e w' => e = .returned (.bool true) ∧ Chg (fun _ => False) w w' := by
  have k1 : ¬ K24 = 0 := by decide
  have k2 : ¬ K49 = 0 := by decide
  obtain ⟨p_a, k_a, rfl, cu_a, C_a⟩ := h0.cut 10
  have cu_a : ∀ W, (Instr.sliceAt 22 (.slice p_a s0.length k_a) none (some (.int .i64 (min (s0.length : Int) 10))) none).run Try.prog W = .ok (.slice p_a (min s0.length 10) k_a) W := cu_a
  have l_a : Hid ((s0.take 10).length ≤ 10) := by show _ ≤ _; rw [List.length_take]; omega
  have S_a := Lib.hid C_a
  clear C_a h0
  generalize min s0.length 10 = n_a at cu_a S_a
  generalize s0.take 10 = a at S_a l_a
  obtain ⟨p_b, k_b, rfl, cu_b, C_b⟩ := h1.cut 10
  have cu_b : ∀ W, (Instr.sliceAt 22 (.slice p_b s1.length k_b) none (some (.int .i64 (min (s1.length : Int) 10))) none).run Try.prog W = .ok (.slice p_b (min s1.length 10) k_b) W := cu_b
  have l_b : Hid ((s1.take 10).length ≤ 10) := by show _ ≤ _; rw [List.length_take]; omega
  have S_b := Lib.hid C_b
  clear C_b h1
  generalize min s1.length 10 = n_b at cu_b S_b
  generalize s1.take 10 = b at S_b l_b
  obtain ⟨p_c, k_c, rfl, cu_c, C_c⟩ := h2.cut 10
  have cu_c : ∀ W, (Instr.sliceAt 22 (.slice p_c s2.length k_c) none (some (.int .i64 (min (s2.length : Int) 10))) none).run Try.prog W = .ok (.slice p_c (min s2.length 10) k_c) W := cu_c
  have l_c : Hid ((s2.take 10).length ≤ 10) := by show _ ≤ _; rw [List.length_take]; omega
  have S_c := Lib.hid C_c
  clear C_c h2
  generalize min s2.length 10 = n_c at cu_c S_c
  generalize s2.take 10 = c at S_c l_c
  have Y : Hid (Chg (fun _ => False) w (w.alloc (.cells (keyCells key).toArray 26))) := chg_alloc _ _ _
  have S_a := Lib.hid (S_a.out.chg Y.out (fun _ _ h => h))
  have S_b := Lib.hid (S_b.out.chg Y.out (fun _ _ h => h))
  have S_c := Lib.hid (S_c.out.chg Y.out (fun _ _ h => h))
  have K_key : Hid (CellsAt (w.alloc (.cells (keyCells key).toArray 26)) w.heap.size 0 (keyCells key)) := cellsAt_new w (keyCells key) 26
  unfold keyV
  go_enter Try.func7, Try.ntmps7
  have q1 := Lib.hid (shown_any (w.alloc (.cells (keyCells key).toArray 26)))
  go_wp2_with fail
  refine q1.out.mono ?_
  rintro e w1 ⟨rfl, X⟩
  have S_a := Lib.hid (S_a.out.chg X (fun _ _ h => h))
  have S_b := Lib.hid (S_b.out.chg X (fun _ _ h => h))
  have S_c := Lib.hid (S_c.out.chg X (fun _ _ h => h))
  have K_key := Lib.hid (X.cells K_key.out (fun h => h))
  have Y : Hid (Chg (fun _ => False) w w1) := Y.out.trans X (fun _ _ h => h)
  clear q1 X
  have q2 := Lib.hid (join_of (.slice p_a n_a k_a) (.slice p_b n_b k_b) a b w1 S_a.out S_b.out (by have := l_a.out; omega) (by have := l_b.out; omega))
  go_wp2_with fail
  refine q2.out.mono ?_
  rintro e w2 ⟨v_j, rfl, S_j, X⟩
  have S_a := Lib.hid (S_a.out.chg X (fun _ _ h => h))
  have S_b := Lib.hid (S_b.out.chg X (fun _ _ h => h))
  have S_c := Lib.hid (S_c.out.chg X (fun _ _ h => h))
  have K_key := Lib.hid (X.cells K_key.out (fun h => h))
  have Y : Hid (Chg (fun _ => False) w w2) := Y.out.trans X (fun _ _ h => h)
  clear q2 X
  have S_j := Lib.hid S_j
  have l_j : Hid ((a ++ b).length ≤ 20) := by have h1 := l_a.out; have h2 := l_b.out; show _ ≤ _; rw [List.length_append]; omega
  have M_j : Hid (∀ n, mem n (NL (a ++ b)) ↔ ((mem n (NL a)) ∨ (mem n (NL b)))) := fun n => by simp only [NL_append, mem_append]
  generalize a ++ b = j at l_j M_j S_j
  have q3 := Lib.hid (join_of v_j (.slice p_c n_c k_c) j c w2 S_j.out S_c.out (by have := l_j.out; omega) (by have := l_c.out; omega))
  go_wp2_with fail
  refine q3.out.mono ?_
  rintro e w3 ⟨v_k, rfl, S_k, X⟩
  have S_a := Lib.hid (S_a.out.chg X (fun _ _ h => h))
  have S_b := Lib.hid (S_b.out.chg X (fun _ _ h => h))
  have S_c := Lib.hid (S_c.out.chg X (fun _ _ h => h))
  have S_j := Lib.hid (S_j.out.chg X (fun _ _ h => h))
  have K_key := Lib.hid (X.cells K_key.out (fun h => h))
  have Y : Hid (Chg (fun _ => False) w w3) := Y.out.trans X (fun _ _ h => h)
  clear q3 X
  have S_k := Lib.hid S_k
  have l_k : Hid ((j ++ c).length ≤ 30) := by have h1 := l_j.out; have h2 := l_c.out; show _ ≤ _; rw [List.length_append]; omega
  have M_k : Hid (∀ n, mem n (NL (j ++ c)) ↔ (((mem n (NL a)) ∨ (mem n (NL b))) ∨ (mem n (NL c)))) := fun n => by simp only [NL_append, mem_append, M_j.out n]
  generalize j ++ c = k at l_k M_k S_k
  have q4 := Lib.hid (clean_spans v_k k w3 S_k.out (by have := l_k.out; omega))
  go_wp2_with fail
  refine q4.out.mono ?_
  rintro e w4 ⟨v_d, d, rfl, Z_d, S_d, X⟩
  have S_a := Lib.hid (S_a.out.chg X (fun _ _ h => h))
  have S_b := Lib.hid (S_b.out.chg X (fun _ _ h => h))
  have S_c := Lib.hid (S_c.out.chg X (fun _ _ h => h))
  have S_j := Lib.hid (S_j.out.chg X (fun _ _ h => h))
  have S_k := Lib.hid (S_k.out.chg X (fun _ _ h => h))
  have K_key := Lib.hid (X.cells K_key.out (fun h => h))
  have Y : Hid (Chg (fun _ => False) w w4) := Y.out.trans X (fun _ _ h => h)
  clear q4 X
  have S_d := Lib.hid S_d
  have T_d : Hid (Tells d (fun n => ((mem n (NL a)) ∨ (mem n (NL b))) ∨ (mem n (NL c)))) := (tells_clean Z_d).to (fun n => by simp only [M_k.out n])
  have M_d : Hid (∀ n, mem n (NL d) ↔ (((mem n (NL a)) ∨ (mem n (NL b))) ∨ (mem n (NL c)))) := T_d.out.2.2
  have l_d : Hid (d.length ≤ 30) := by have h := Z_d.length; have h_k := l_k.out; show _ ≤ _; omega
  clear Z_d
  clear S_j S_k
  have q5 := Lib.hid (join_of (.slice p_b n_b k_b) (.slice p_c n_c k_c) b c w4 S_b.out S_c.out (by have := l_b.out; omega) (by have := l_c.out; omega))
  go_wp2_with fail
  refine q5.out.mono ?_
  rintro e w5 ⟨v_j1, rfl, S_j1, X⟩
  have S_a := Lib.hid (S_a.out.chg X (fun _ _ h => h))
  have S_b := Lib.hid (S_b.out.chg X (fun _ _ h => h))
  have S_c := Lib.hid (S_c.out.chg X (fun _ _ h => h))
  have S_d := Lib.hid (S_d.out.chg X (fun _ _ h => h))
  have K_key := Lib.hid (X.cells K_key.out (fun h => h))
  have Y : Hid (Chg (fun _ => False) w w5) := Y.out.trans X (fun _ _ h => h)
  clear q5 X
  have S_j1 := Lib.hid S_j1
  have l_j1 : Hid ((b ++ c).length ≤ 20) := by have h1 := l_b.out; have h2 := l_c.out; show _ ≤ _; rw [List.length_append]; omega
  have M_j1 : Hid (∀ n, mem n (NL (b ++ c)) ↔ ((mem n (NL b)) ∨ (mem n (NL c)))) := fun n => by simp only [NL_append, mem_append]
  generalize b ++ c = j1 at l_j1 M_j1 S_j1
  have q6 := Lib.hid (clean_spans v_j1 j1 w5 S_j1.out (by have := l_j1.out; omega))
  go_wp2_with fail
  refine q6.out.mono ?_
  rintro e w6 ⟨v_e, e, rfl, Z_e, S_e, X⟩
  have S_a := Lib.hid (S_a.out.chg X (fun _ _ h => h))
  have S_b := Lib.hid (S_b.out.chg X (fun _ _ h => h))
  have S_c := Lib.hid (S_c.out.chg X (fun _ _ h => h))
  have S_d := Lib.hid (S_d.out.chg X (fun _ _ h => h))
  have S_j1 := Lib.hid (S_j1.out.chg X (fun _ _ h => h))
  have K_key := Lib.hid (X.cells K_key.out (fun h => h))
  have Y : Hid (Chg (fun _ => False) w w6) := Y.out.trans X (fun _ _ h => h)
  clear q6 X
  have S_e := Lib.hid S_e
  have T_e : Hid (Tells e (fun n => (mem n (NL b)) ∨ (mem n (NL c)))) := (tells_clean Z_e).to (fun n => by simp only [M_j1.out n])
  have M_e : Hid (∀ n, mem n (NL e) ↔ ((mem n (NL b)) ∨ (mem n (NL c)))) := T_e.out.2.2
  have l_e : Hid (e.length ≤ 20) := by have h := Z_e.length; have h_j1 := l_j1.out; show _ ≤ _; omega
  clear Z_e
  clear S_j1
  have q7 := Lib.hid (join_of (.slice p_a n_a k_a) v_e a e w6 S_a.out S_e.out (by have := l_a.out; omega) (by have := l_e.out; omega))
  go_wp2_with fail
  refine q7.out.mono ?_
  rintro e w7 ⟨v_j2, rfl, S_j2, X⟩
  have S_a := Lib.hid (S_a.out.chg X (fun _ _ h => h))
  have S_b := Lib.hid (S_b.out.chg X (fun _ _ h => h))
  have S_c := Lib.hid (S_c.out.chg X (fun _ _ h => h))
  have S_d := Lib.hid (S_d.out.chg X (fun _ _ h => h))
  have S_e := Lib.hid (S_e.out.chg X (fun _ _ h => h))
  have K_key := Lib.hid (X.cells K_key.out (fun h => h))
  have Y : Hid (Chg (fun _ => False) w w7) := Y.out.trans X (fun _ _ h => h)
  clear q7 X
  have S_j2 := Lib.hid S_j2
  have l_j2 : Hid ((a ++ e).length ≤ 30) := by have h1 := l_a.out; have h2 := l_e.out; show _ ≤ _; rw [List.length_append]; omega
  have M_j2 : Hid (∀ n, mem n (NL (a ++ e)) ↔ ((mem n (NL a)) ∨ ((mem n (NL b)) ∨ (mem n (NL c))))) := fun n => by simp only [NL_append, mem_append, M_e.out n]
  generalize a ++ e = j2 at l_j2 M_j2 S_j2
  clear S_e
  have q8 := Lib.hid (clean_spans v_j2 j2 w7 S_j2.out (by have := l_j2.out; omega))
  go_wp2_with fail
  refine q8.out.mono ?_
  rintro e w8 ⟨v_f, f, rfl, Z_f, S_f, X⟩
  have S_a := Lib.hid (S_a.out.chg X (fun _ _ h => h))
  have S_b := Lib.hid (S_b.out.chg X (fun _ _ h => h))
  have S_c := Lib.hid (S_c.out.chg X (fun _ _ h => h))
  have S_d := Lib.hid (S_d.out.chg X (fun _ _ h => h))
  have S_j2 := Lib.hid (S_j2.out.chg X (fun _ _ h => h))
  have K_key := Lib.hid (X.cells K_key.out (fun h => h))
  have Y : Hid (Chg (fun _ => False) w w8) := Y.out.trans X (fun _ _ h => h)
  clear q8 X
  have S_f := Lib.hid S_f
  have T_f : Hid (Tells f (fun n => (mem n (NL a)) ∨ ((mem n (NL b)) ∨ (mem n (NL c))))) := (tells_clean Z_f).to (fun n => by simp only [M_j2.out n])
  have M_f : Hid (∀ n, mem n (NL f) ↔ ((mem n (NL a)) ∨ ((mem n (NL b)) ∨ (mem n (NL c))))) := T_f.out.2.2
  have l_f : Hid (f.length ≤ 30) := by have h := Z_f.length; have h_j2 := l_j2.out; show _ ≤ _; omega
  clear Z_f
  clear S_j2
  have E : Hid (f = d) := T_f.out.unique T_d.out (fun n => by by_cases h_a : mem n (NL a) <;> by_cases h_b : mem n (NL b) <;> by_cases h_c : mem n (NL c) <;> simp [h_a, h_b, h_c])
  have qs := same_of v_f v_d f d w8 S_f.out S_d.out (by have := l_f.out; omega) (by have := l_d.out; omega)
  rw [decide_eq_true E.out] at qs
  have q9 := Lib.hid (qs)
  go_wp2_with fail
  refine q9.out.mono ?_
  rintro e w9 ⟨rfl, X⟩
  have S_a := Lib.hid (S_a.out.chg X (fun _ _ h => h))
  have S_b := Lib.hid (S_b.out.chg X (fun _ _ h => h))
  have S_c := Lib.hid (S_c.out.chg X (fun _ _ h => h))
  have S_d := Lib.hid (S_d.out.chg X (fun _ _ h => h))
  have S_f := Lib.hid (S_f.out.chg X (fun _ _ h => h))
  have K_key := Lib.hid (X.cells K_key.out (fun h => h))
  have Y : Hid (Chg (fun _ => False) w w9) := Y.out.trans X (fun _ _ h => h)
  clear q9 X
  clear qs E
  clear S_f
  have q10 := Lib.hid (join_of (.slice p_b n_b k_b) (.slice p_a n_a k_a) b a w9 S_b.out S_a.out (by have := l_b.out; omega) (by have := l_a.out; omega))
  go_wp2_with fail
  refine q10.out.mono ?_
  rintro e w10 ⟨v_j3, rfl, S_j3, X⟩
  have S_a := Lib.hid (S_a.out.chg X (fun _ _ h => h))
  have S_b := Lib.hid (S_b.out.chg X (fun _ _ h => h))
  have S_c := Lib.hid (S_c.out.chg X (fun _ _ h => h))
  have S_d := Lib.hid (S_d.out.chg X (fun _ _ h => h))
  have K_key := Lib.hid (X.cells K_key.out (fun h => h))
  have Y : Hid (Chg (fun _ => False) w w10) := Y.out.trans X (fun _ _ h => h)
  clear q10 X
  have S_j3 := Lib.hid S_j3
  have l_j3 : Hid ((b ++ a).length ≤ 20) := by have h1 := l_b.out; have h2 := l_a.out; show _ ≤ _; rw [List.length_append]; omega
  have M_j3 : Hid (∀ n, mem n (NL (b ++ a)) ↔ ((mem n (NL b)) ∨ (mem n (NL a)))) := fun n => by simp only [NL_append, mem_append]
  generalize b ++ a = j3 at l_j3 M_j3 S_j3
  have q11 := Lib.hid (join_of (.slice p_c n_c k_c) v_j3 c j3 w10 S_c.out S_j3.out (by have := l_c.out; omega) (by have := l_j3.out; omega))
  go_wp2_with fail
  refine q11.out.mono ?_
  rintro e w11 ⟨v_j4, rfl, S_j4, X⟩
  have S_a := Lib.hid (S_a.out.chg X (fun _ _ h => h))
  have S_b := Lib.hid (S_b.out.chg X (fun _ _ h => h))
  have S_c := Lib.hid (S_c.out.chg X (fun _ _ h => h))
  have S_d := Lib.hid (S_d.out.chg X (fun _ _ h => h))
  have S_j3 := Lib.hid (S_j3.out.chg X (fun _ _ h => h))
  have K_key := Lib.hid (X.cells K_key.out (fun h => h))
  have Y : Hid (Chg (fun _ => False) w w11) := Y.out.trans X (fun _ _ h => h)
  clear q11 X
  have S_j4 := Lib.hid S_j4
  have l_j4 : Hid ((c ++ j3).length ≤ 30) := by have h1 := l_c.out; have h2 := l_j3.out; show _ ≤ _; rw [List.length_append]; omega
  have M_j4 : Hid (∀ n, mem n (NL (c ++ j3)) ↔ ((mem n (NL c)) ∨ ((mem n (NL b)) ∨ (mem n (NL a))))) := fun n => by simp only [NL_append, mem_append, M_j3.out n]
  generalize c ++ j3 = j4 at l_j4 M_j4 S_j4
  clear S_j3
  have q12 := Lib.hid (clean_spans v_j4 j4 w11 S_j4.out (by have := l_j4.out; omega))
  go_wp2_with fail
  refine q12.out.mono ?_
  rintro e w12 ⟨v_g, g, rfl, Z_g, S_g, X⟩
  have S_a := Lib.hid (S_a.out.chg X (fun _ _ h => h))
  have S_b := Lib.hid (S_b.out.chg X (fun _ _ h => h))
  have S_c := Lib.hid (S_c.out.chg X (fun _ _ h => h))
  have S_d := Lib.hid (S_d.out.chg X (fun _ _ h => h))
  have S_j4 := Lib.hid (S_j4.out.chg X (fun _ _ h => h))
  have K_key := Lib.hid (X.cells K_key.out (fun h => h))
  have Y : Hid (Chg (fun _ => False) w w12) := Y.out.trans X (fun _ _ h => h)
  clear q12 X
  have S_g := Lib.hid S_g
  have T_g : Hid (Tells g (fun n => (mem n (NL c)) ∨ ((mem n (NL b)) ∨ (mem n (NL a))))) := (tells_clean Z_g).to (fun n => by simp only [M_j4.out n])
  have M_g : Hid (∀ n, mem n (NL g) ↔ ((mem n (NL c)) ∨ ((mem n (NL b)) ∨ (mem n (NL a))))) := T_g.out.2.2
  have l_g : Hid (g.length ≤ 30) := by have h := Z_g.length; have h_j4 := l_j4.out; show _ ≤ _; omega
  clear Z_g
  clear S_j4
  have E : Hid (g = d) := T_g.out.unique T_d.out (fun n => by by_cases h_a : mem n (NL a) <;> by_cases h_b : mem n (NL b) <;> by_cases h_c : mem n (NL c) <;> simp [h_a, h_b, h_c])
  have qs := same_of v_g v_d g d w12 S_g.out S_d.out (by have := l_g.out; omega) (by have := l_d.out; omega)
  rw [decide_eq_true E.out] at qs
  have q13 := Lib.hid (qs)
  go_wp2_with fail
  refine q13.out.mono ?_
  rintro e w13 ⟨rfl, X⟩
  have S_a := Lib.hid (S_a.out.chg X (fun _ _ h => h))
  have S_b := Lib.hid (S_b.out.chg X (fun _ _ h => h))
  have S_c := Lib.hid (S_c.out.chg X (fun _ _ h => h))
  have S_d := Lib.hid (S_d.out.chg X (fun _ _ h => h))
  have S_g := Lib.hid (S_g.out.chg X (fun _ _ h => h))
  have K_key := Lib.hid (X.cells K_key.out (fun h => h))
  have Y : Hid (Chg (fun _ => False) w w13) := Y.out.trans X (fun _ _ h => h)
  clear q13 X
  clear qs E
  clear S_g
  have E_d : Hid (hasL key d = (hasL key a || (hasL key b || hasL key c))) := by
    show _ = _
    rw [Bool.eq_iff_iff, Bool.or_eq_true, Bool.or_eq_true, hasL_iff, hasL_iff, hasL_iff, hasL_iff, M_d.out (nK key)]
    by_cases h_a : mem (nK key) (NL a) <;> by_cases h_b : mem (nK key) (NL b) <;> by_cases h_c : mem (nK key) (NL c) <;> simp [h_a, h_b, h_c]
  cases ha : hasL key a with
  | true =>
    have E_a := Lib.hid ha
    rw [ha] at E_d
    clear ha
    have E_h := E_a
    have ld := K_key.out.load Try.prog K24 (keyCells_length key)
    have q14 := Lib.hid (has_ofC key (.slice p_a n_a k_a) a true w13 S_a.out (by have := l_a.out; omega) E_h.out)
    go_wp2_with fail
    refine q14.out.mono ?_
    rintro e w14 ⟨rfl, X⟩
    have S_a := Lib.hid (S_a.out.chg X (fun _ _ h => h))
    have S_b := Lib.hid (S_b.out.chg X (fun _ _ h => h))
    have S_c := Lib.hid (S_c.out.chg X (fun _ _ h => h))
    have S_d := Lib.hid (S_d.out.chg X (fun _ _ h => h))
    have K_key := Lib.hid (X.cells K_key.out (fun h => h))
    have Y : Hid (Chg (fun _ => False) w w14) := Y.out.trans X (fun _ _ h => h)
    clear q14 ld E_h X
    have E_h := E_d
    have ld := K_key.out.load Try.prog K24 (keyCells_length key)
    have q15 := Lib.hid (has_ofC key v_d d true w14 S_d.out (by have := l_d.out; omega) E_h.out)
    go_wp2_with fail
    refine q15.out.mono ?_
    rintro e w15 ⟨rfl, X⟩
    have S_a := Lib.hid (S_a.out.chg X (fun _ _ h => h))
    have S_b := Lib.hid (S_b.out.chg X (fun _ _ h => h))
    have S_c := Lib.hid (S_c.out.chg X (fun _ _ h => h))
    have S_d := Lib.hid (S_d.out.chg X (fun _ _ h => h))
    have K_key := Lib.hid (X.cells K_key.out (fun h => h))
    have Y : Hid (Chg (fun _ => False) w w15) := Y.out.trans X (fun _ _ h => h)
    clear q15 ld E_h X
    go_wp2
    go_ret
    exact ⟨rfl, Y.out⟩
  | false =>
    have E_a := Lib.hid ha
    rw [ha] at E_d
    clear ha
    cases ha : hasL key b with
    | true =>
      have E_b := Lib.hid ha
      rw [ha] at E_d
      clear ha
      have E_h := E_a
      have ld := K_key.out.load Try.prog K24 (keyCells_length key)
      have q14 := Lib.hid (has_ofC key (.slice p_a n_a k_a) a false w13 S_a.out (by have := l_a.out; omega) E_h.out)
      go_wp2_with fail
      refine q14.out.mono ?_
      rintro e w14 ⟨rfl, X⟩
      have S_a := Lib.hid (S_a.out.chg X (fun _ _ h => h))
      have S_b := Lib.hid (S_b.out.chg X (fun _ _ h => h))
      have S_c := Lib.hid (S_c.out.chg X (fun _ _ h => h))
      have S_d := Lib.hid (S_d.out.chg X (fun _ _ h => h))
      have K_key := Lib.hid (X.cells K_key.out (fun h => h))
      have Y : Hid (Chg (fun _ => False) w w14) := Y.out.trans X (fun _ _ h => h)
      clear q14 ld E_h X
      have E_h := E_b
      have ld := K_key.out.load Try.prog K24 (keyCells_length key)
      have q15 := Lib.hid (has_ofC key (.slice p_b n_b k_b) b true w14 S_b.out (by have := l_b.out; omega) E_h.out)
      go_wp2_with fail
      refine q15.out.mono ?_
      rintro e w15 ⟨rfl, X⟩
      have S_a := Lib.hid (S_a.out.chg X (fun _ _ h => h))
      have S_b := Lib.hid (S_b.out.chg X (fun _ _ h => h))
      have S_c := Lib.hid (S_c.out.chg X (fun _ _ h => h))
      have S_d := Lib.hid (S_d.out.chg X (fun _ _ h => h))
      have K_key := Lib.hid (X.cells K_key.out (fun h => h))
      have Y : Hid (Chg (fun _ => False) w w15) := Y.out.trans X (fun _ _ h => h)
      clear q15 ld E_h X
      have E_h := E_d
      have ld := K_key.out.load Try.prog K24 (keyCells_length key)
      have q16 := Lib.hid (has_ofC key v_d d true w15 S_d.out (by have := l_d.out; omega) E_h.out)
      go_wp2_with fail
      refine q16.out.mono ?_
      rintro e w16 ⟨rfl, X⟩
      have S_a := Lib.hid (S_a.out.chg X (fun _ _ h => h))
      have S_b := Lib.hid (S_b.out.chg X (fun _ _ h => h))
      have S_c := Lib.hid (S_c.out.chg X (fun _ _ h => h))
      have S_d := Lib.hid (S_d.out.chg X (fun _ _ h => h))
      have K_key := Lib.hid (X.cells K_key.out (fun h => h))
      have Y : Hid (Chg (fun _ => False) w w16) := Y.out.trans X (fun _ _ h => h)
      clear q16 ld E_h X
      go_wp2
      go_ret
      exact ⟨rfl, Y.out⟩
    | false =>
      have E_b := Lib.hid ha
      rw [ha] at E_d
      clear ha
      cases ha : hasL key c with
      | true =>
        have E_c := Lib.hid ha
        rw [ha] at E_d
        clear ha
        have E_h := E_a
        have ld := K_key.out.load Try.prog K24 (keyCells_length key)
        have q14 := Lib.hid (has_ofC key (.slice p_a n_a k_a) a false w13 S_a.out (by have := l_a.out; omega) E_h.out)
        go_wp2_with fail
        refine q14.out.mono ?_
        rintro e w14 ⟨rfl, X⟩
        have S_a := Lib.hid (S_a.out.chg X (fun _ _ h => h))
        have S_b := Lib.hid (S_b.out.chg X (fun _ _ h => h))
        have S_c := Lib.hid (S_c.out.chg X (fun _ _ h => h))
        have S_d := Lib.hid (S_d.out.chg X (fun _ _ h => h))
        have K_key := Lib.hid (X.cells K_key.out (fun h => h))
        have Y : Hid (Chg (fun _ => False) w w14) := Y.out.trans X (fun _ _ h => h)
        clear q14 ld E_h X
        have E_h := E_b
        have ld := K_key.out.load Try.prog K24 (keyCells_length key)
        have q15 := Lib.hid (has_ofC key (.slice p_b n_b k_b) b false w14 S_b.out (by have := l_b.out; omega) E_h.out)
        go_wp2_with fail
        refine q15.out.mono ?_
        rintro e w15 ⟨rfl, X⟩
        have S_a := Lib.hid (S_a.out.chg X (fun _ _ h => h))
        have S_b := Lib.hid (S_b.out.chg X (fun _ _ h => h))
        have S_c := Lib.hid (S_c.out.chg X (fun _ _ h => h))
        have S_d := Lib.hid (S_d.out.chg X (fun _ _ h => h))
        have K_key := Lib.hid (X.cells K_key.out (fun h => h))
        have Y : Hid (Chg (fun _ => False) w w15) := Y.out.trans X (fun _ _ h => h)
        clear q15 ld E_h X
        have E_h := E_c
        have ld := K_key.out.load Try.prog K24 (keyCells_length key)
        have q16 := Lib.hid (has_ofC key (.slice p_c n_c k_c) c true w15 S_c.out (by have := l_c.out; omega) E_h.out)
        go_wp2_with fail
        refine q16.out.mono ?_
        rintro e w16 ⟨rfl, X⟩
        have S_a := Lib.hid (S_a.out.chg X (fun _ _ h => h))
        have S_b := Lib.hid (S_b.out.chg X (fun _ _ h => h))
        have S_c := Lib.hid (S_c.out.chg X (fun _ _ h => h))
        have S_d := Lib.hid (S_d.out.chg X (fun _ _ h => h))
        have K_key := Lib.hid (X.cells K_key.out (fun h => h))
        have Y : Hid (Chg (fun _ => False) w w16) := Y.out.trans X (fun _ _ h => h)
        clear q16 ld E_h X
        have E_h := E_d
        have ld := K_key.out.load Try.prog K24 (keyCells_length key)
        have q17 := Lib.hid (has_ofC key v_d d true w16 S_d.out (by have := l_d.out; omega) E_h.out)
        go_wp2_with fail
        refine q17.out.mono ?_
        rintro e w17 ⟨rfl, X⟩
        have S_a := Lib.hid (S_a.out.chg X (fun _ _ h => h))
        have S_b := Lib.hid (S_b.out.chg X (fun _ _ h => h))
        have S_c := Lib.hid (S_c.out.chg X (fun _ _ h => h))
        have S_d := Lib.hid (S_d.out.chg X (fun _ _ h => h))
        have K_key := Lib.hid (X.cells K_key.out (fun h => h))
        have Y : Hid (Chg (fun _ => False) w w17) := Y.out.trans X (fun _ _ h => h)
        clear q17 ld E_h X
        go_wp2
        go_ret
        exact ⟨rfl, Y.out⟩
      | false =>
        have E_c := Lib.hid ha
        rw [ha] at E_d
        clear ha
        have E_h := E_a
        have ld := K_key.out.load Try.prog K24 (keyCells_length key)
        have q14 := Lib.hid (has_ofC key (.slice p_a n_a k_a) a false w13 S_a.out (by have := l_a.out; omega) E_h.out)
        go_wp2_with fail
        refine q14.out.mono ?_
        rintro e w14 ⟨rfl, X⟩
        have S_a := Lib.hid (S_a.out.chg X (fun _ _ h => h))
        have S_b := Lib.hid (S_b.out.chg X (fun _ _ h => h))
        have S_c := Lib.hid (S_c.out.chg X (fun _ _ h => h))
        have S_d := Lib.hid (S_d.out.chg X (fun _ _ h => h))
        have K_key := Lib.hid (X.cells K_key.out (fun h => h))
        have Y : Hid (Chg (fun _ => False) w w14) := Y.out.trans X (fun _ _ h => h)
        clear q14 ld E_h X
        have E_h := E_b
        have ld := K_key.out.load Try.prog K24 (keyCells_length key)
        have q15 := Lib.hid (has_ofC key (.slice p_b n_b k_b) b false w14 S_b.out (by have := l_b.out; omega) E_h.out)
        go_wp2_with fail
        refine q15.out.mono ?_
        rintro e w15 ⟨rfl, X⟩
        have S_a := Lib.hid (S_a.out.chg X (fun _ _ h => h))
        have S_b := Lib.hid (S_b.out.chg X (fun _ _ h => h))
        have S_c := Lib.hid (S_c.out.chg X (fun _ _ h => h))
        have S_d := Lib.hid (S_d.out.chg X (fun _ _ h => h))
        have K_key := Lib.hid (X.cells K_key.out (fun h => h))
        have Y : Hid (Chg (fun _ => False) w w15) := Y.out.trans X (fun _ _ h => h)
        clear q15 ld E_h X
        have E_h := E_c
        have ld := K_key.out.load Try.prog K24 (keyCells_length key)
        have q16 := Lib.hid (has_ofC key (.slice p_c n_c k_c) c false w15 S_c.out (by have := l_c.out; omega) E_h.out)
        go_wp2_with fail
        refine q16.out.mono ?_
        rintro e w16 ⟨rfl, X⟩
        have S_a := Lib.hid (S_a.out.chg X (fun _ _ h => h))
        have S_b := Lib.hid (S_b.out.chg X (fun _ _ h => h))
        have S_c := Lib.hid (S_c.out.chg X (fun _ _ h => h))
        have S_d := Lib.hid (S_d.out.chg X (fun _ _ h => h))
        have K_key := Lib.hid (X.cells K_key.out (fun h => h))
        have Y : Hid (Chg (fun _ => False) w w16) := Y.out.trans X (fun _ _ h => h)
        clear q16 ld E_h X
        have E_h := E_d
        have ld := K_key.out.load Try.prog K24 (keyCells_length key)
        have q17 := Lib.hid (has_ofC key v_d d false w16 S_d.out (by have := l_d.out; omega) E_h.out)
        go_wp2_with fail
        refine q17.out.mono ?_
        rintro e w17 ⟨rfl, X⟩
        have S_a := Lib.hid (S_a.out.chg X (fun _ _ h => h))
        have S_b := Lib.hid (S_b.out.chg X (fun _ _ h => h))
        have S_c := Lib.hid (S_c.out.chg X (fun _ _ h => h))
        have S_d := Lib.hid (S_d.out.chg X (fun _ _ h => h))
        have K_key := Lib.hid (X.cells K_key.out (fun h => h))
        have Y : Hid (Chg (fun _ => False) w w17) := Y.out.trans X (fun _ _ h => h)
        clear q17 ld E_h X
        go_wp2
        go_ret
        exact ⟨rfl, Y.out⟩
end Go.Proofs.Ytfeomnkgkppdlaa
