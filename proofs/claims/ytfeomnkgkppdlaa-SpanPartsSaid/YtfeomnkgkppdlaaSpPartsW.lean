/- The walk of SpanParts. -/
import Derived.Test.YtfeomnkgkppdlaaSpShown
import Derived.Test.YtfeomnkgkppdlaaSpJoin
set_option linter.unusedVariables false
set_option linter.unusedSimpArgs false
namespace Go.Proofs.Ytfeomnkgkppdlaa
open Go Go.RowKit Go.Sort Go.Lib
attribute [local go_sem ↓] run_size24 run_size49 run_size25
attribute [local simp high] run_size24x run_size49x run_size25x
attribute [local go_sem ↓] to_span1 to_span2 to_span3 to_key1 to_spans1 to_keys1 to_bd0 to_bd1
attribute [local simp] is_bFrEn is_bTo is_bEn is_bFrTo is_bSpans1 is_bKeys1 run_bFrEn run_bTo run_bEn run_bFrTo run_bSpans1 run_bKeys1 is_bBdKey is_bBdEn is_bSp3 run_bBdKey run_bBdEn run_bBd0 run_bSp3

set_option maxHeartbeats 8000000 in
set_option maxRecDepth 100000 in
theorem parts_any (v0 v1 : Value) (s0 s1 : List Sp) (w : World) (h0 : SpansIn w v0 s0) (h1 : SpansIn w v1 s1) :
    Calls Try.prog 4 #[v0, v1] w fun e w' => e = .returned (.bool true) ∧ Chg (fun _ => False) w w' := by
  obtain ⟨i0, hi, hz0, hz1, hz2⟩ := info_parts info28
  have k1 : ¬ K24 = 0 := by decide
  have k2 : ¬ K49 = 0 := by decide
  have H0 := Lib.hid h0
  have H1 := Lib.hid h1
  clear h0 h1
  go_enter Try.func4, Try.ntmps4
  have q1 := Lib.hid (shown_any w)
  go_wp2_with fail
  refine q1.out.mono ?_
  rintro e w1 ⟨rfl, X⟩
  have H0 := Lib.hid (H0.out.chg X (fun _ _ h => h))
  have H1 := Lib.hid (H1.out.chg X (fun _ _ h => h))
  have Y : Hid (Chg (fun _ => False) w w1) := X
  clear q1 X
  have q2 := Lib.hid (cut_of v0 s0 w1 H0.out)
  go_wp2_with fail
  refine q2.out.mono ?_
  rintro e w2 ⟨v_a, rfl, O, X⟩
  have H1 := Lib.hid (H1.out.chg X (fun _ _ h => h))
  have Y : Hid (Chg (fun _ => False) w w2) := Y.out.trans X (fun _ _ h => h)
  clear q2 X
  have l_a : Hid ((s0.take 30).length ≤ 30) := by show _ ≤ _; rw [List.length_take]; omega
  generalize s0.take 30 = a at O l_a
  have S_a := Lib.hid (spansIn_own O)
  clear O H0
  have q3 := Lib.hid (cut_of v1 s1 w2 H1.out)
  go_wp2_with fail
  refine q3.out.mono ?_
  rintro e w3 ⟨v_b, rfl, O, X⟩
  have S_a := Lib.hid (S_a.out.chg X (fun _ _ h => h))
  have Y : Hid (Chg (fun _ => False) w w3) := Y.out.trans X (fun _ _ h => h)
  clear q3 X
  have l_b : Hid ((s1.take 30).length ≤ 30) := by show _ ≤ _; rw [List.length_take]; omega
  generalize s1.take 30 = b at O l_b
  have S_b := Lib.hid (spansIn_own O)
  clear O H1
  have q4 := Lib.hid (both_of v_a v_b a b w3 S_a.out S_b.out (by have := l_a.out; omega) (by have := l_b.out; omega))
  go_wp2_with fail
  refine q4.out.mono ?_
  rintro e w4 ⟨v_c, c, rfl, Z_c, S_c, X⟩
  have S_a := Lib.hid (S_a.out.chg X (fun _ _ h => h))
  have S_b := Lib.hid (S_b.out.chg X (fun _ _ h => h))
  have Y : Hid (Chg (fun _ => False) w w4) := Y.out.trans X (fun _ _ h => h)
  clear q4 X
  have S_c := Lib.hid S_c
  have T_c : Hid (Tells c (fun n => (mem n (NL a)) ∧ (mem n (NL b)))) := (tells_both Z_c).to (fun n => Iff.rfl)
  have M_c : Hid (∀ n, mem n (NL c) ↔ ((mem n (NL a)) ∧ (mem n (NL b)))) := T_c.out.2.2
  have l_c : Hid (c.length ≤ 60) := by have h := Z_c.length; have h_a := l_a.out; have h_b := l_b.out; show _ ≤ _; omega
  clear Z_c
  have q5 := Lib.hid (less_of v_a v_b a b w4 S_a.out S_b.out (by have := l_a.out; omega) (by have := l_b.out; omega))
  go_wp2_with fail
  refine q5.out.mono ?_
  rintro e w5 ⟨v_d, d, rfl, Z_d, S_d, X⟩
  have S_a := Lib.hid (S_a.out.chg X (fun _ _ h => h))
  have S_b := Lib.hid (S_b.out.chg X (fun _ _ h => h))
  have S_c := Lib.hid (S_c.out.chg X (fun _ _ h => h))
  have Y : Hid (Chg (fun _ => False) w w5) := Y.out.trans X (fun _ _ h => h)
  clear q5 X
  have S_d := Lib.hid S_d
  have T_d : Hid (Tells d (fun n => (mem n (NL a)) ∧ ¬ (mem n (NL b)))) := (tells_less Z_d).to (fun n => Iff.rfl)
  have M_d : Hid (∀ n, mem n (NL d) ↔ ((mem n (NL a)) ∧ ¬ (mem n (NL b)))) := T_d.out.2.2
  have l_d : Hid (d.length ≤ 61) := by have h := Z_d.length; have h_a := l_a.out; have h_b := l_b.out; show _ ≤ _; omega
  clear Z_d
  -- both and less, one behind the other
  obtain ⟨p_c, k_c, rfl, _, N_c⟩ := S_c.out.parts
  obtain ⟨p_d, k_d, rfl, _, N_d⟩ := S_d.out.parts
  have N_c := Lib.hid N_c
  have N_d := Lib.hid N_d
  have F_c : Hid ((flat spanCells c).length = c.length * 49) := flat_length spanCells_length c
  have O_c : Hid (∀ u ∈ flat spanCells c, u.oneCell' = true) := flat_one spanCells_one c
  have F_d : Hid ((flat spanCells d).length = d.length * 49) := flat_length spanCells_length d
  have O_d : Hid (∀ u ∈ flat spanCells d, u.oneCell' = true) := flat_one spanCells_one d
  have XA : Hid (Chg (fun _ => False) w5 (w5.alloc (.cells #[] 28))) := chg_alloc _ _ _
  have A_c := Lib.hid (S_c.out.chg XA.out (fun _ _ h => h))
  have own0 := Lib.hid (World.ownsRow_made (e := 28) (size := 49) (base := w5.heap.size) w5 #[] 0 (Nat.le_refl _) (Nat.zero_le _) (by simp))
  have lc := l_c.out
  have ld := l_d.out
  generalize hc : c.length = nc at S_c A_c N_c F_c lc
  generalize hd : d.length = nd at S_d N_d F_d ld
  have hc := Lib.hid hc
  have hd := Lib.hid hd
  go_wp2_with (at_builtin; refine wpList_append_any rfl _ _ 22 rfl w5.heap.size 28 i0 (.agg (spanCells zeroSp).toArray) 49 49 Try.underlying22 hi hz0 hz1 hz2 rfl (by decide) _ _ _ rfl own0.out p_c nc k_c (flat spanCells c) rfl F_c.out N_c.out A_c.out.news O_c.out ?c1 ?c2 ?c3 ?_)
  case c1 => unfold maxLen; omega
  case c2 => omega
  case c3 => simp
  intro v1 wx hown1 hch1
  have X1 : Hid (Chg (fun _ => False) w5 wx) := XA.out.trans hch1 (fun i hi h => absurd hi (by omega))
  have A_d := Lib.hid (S_d.out.chg X1.out (fun _ _ h => h))
  have own1 : Hid (wx.ownsRow w5.heap.size 28 49 v1 nc (flat spanCells c)) := by
    show wx.ownsRow w5.heap.size 28 49 v1 nc (flat spanCells c)
    simpa using hown1
  have sz1 : w5.heap.size ≤ wx.heap.size := X1.out.size
  clear hown1 hch1 own0 A_c XA
  go_wp2_with (at_builtin; refine wpList_append_any rfl _ _ 22 rfl w5.heap.size 28 i0 (.agg (spanCells zeroSp).toArray) 49 49 Try.underlying22 hi hz0 hz1 hz2 rfl (by decide) _ _ _ rfl own1.out p_d nd k_d (flat spanCells d) rfl F_d.out N_d.out A_d.out.news O_d.out ?c4 ?c5 ?c6 ?_)
  case c4 => unfold maxLen; omega
  case c5 => omega
  case c6 => exact sz1
  intro v_j w6 hown2 hch2
  have X := X1.out.trans hch2 (fun i hi h => absurd hi (by omega))
  have S_j := Lib.hid (spansIn_ownA hown2 (flat_append c d).symm)
  have S_a := Lib.hid (S_a.out.chg X (fun _ _ h => h))
  have S_b := Lib.hid (S_b.out.chg X (fun _ _ h => h))
  have S_c := Lib.hid (S_c.out.chg X (fun _ _ h => h))
  have S_d := Lib.hid (S_d.out.chg X (fun _ _ h => h))
  have Y : Hid (Chg (fun _ => False) w w6) := Y.out.trans X (fun _ _ h => h)
  clear hown2 hch2 own1 A_d sz1 X1 N_c N_d F_c F_d O_c O_d lc ld X
  have l_j : Hid ((c ++ d).length ≤ 121) := by have h1 := l_c.out; have h2 := l_d.out; show _ ≤ _; rw [List.length_append]; omega
  have M_j : Hid (∀ n, mem n (NL (c ++ d)) ↔ (((mem n (NL a)) ∧ (mem n (NL b))) ∨ ((mem n (NL a)) ∧ ¬ (mem n (NL b))))) := fun n => by simp only [NL_append, mem_append, M_c.out n, M_d.out n]
  generalize c ++ d = j at l_j M_j S_j
  have hc := hc.out
  have hd := hd.out
  subst hc
  subst hd
  obtain ⟨v_c, hv_c⟩ : ∃ v, v = Value.slice p_c c.length k_c := ⟨_, rfl⟩
  obtain ⟨v_d, hv_d⟩ : ∃ v, v = Value.slice p_d d.length k_d := ⟨_, rfl⟩
  rw [← hv_c] at S_c ⊢
  rw [← hv_d] at S_d ⊢
  clear hv_c hv_d
  have q6 := Lib.hid (clean_spans v_j j w6 S_j.out (by have := l_j.out; omega))
  go_wp2_with fail
  refine q6.out.mono ?_
  rintro e w7 ⟨v_e, e, rfl, Z_e, S_e, X⟩
  have S_a := Lib.hid (S_a.out.chg X (fun _ _ h => h))
  have S_b := Lib.hid (S_b.out.chg X (fun _ _ h => h))
  have S_c := Lib.hid (S_c.out.chg X (fun _ _ h => h))
  have S_d := Lib.hid (S_d.out.chg X (fun _ _ h => h))
  have S_j := Lib.hid (S_j.out.chg X (fun _ _ h => h))
  have Y : Hid (Chg (fun _ => False) w w7) := Y.out.trans X (fun _ _ h => h)
  clear q6 X
  have S_e := Lib.hid S_e
  have T_e : Hid (Tells e (fun n => ((mem n (NL a)) ∧ (mem n (NL b))) ∨ ((mem n (NL a)) ∧ ¬ (mem n (NL b))))) := (tells_clean Z_e).to (fun n => by simp only [M_j.out n])
  have M_e : Hid (∀ n, mem n (NL e) ↔ (((mem n (NL a)) ∧ (mem n (NL b))) ∨ ((mem n (NL a)) ∧ ¬ (mem n (NL b))))) := T_e.out.2.2
  have l_e : Hid (e.length ≤ 121) := by have h := Z_e.length; have h_j := l_j.out; show _ ≤ _; omega
  clear Z_e
  have q7 := Lib.hid (clean_spans v_a a w7 S_a.out (by have := l_a.out; omega))
  go_wp2_with fail
  refine q7.out.mono ?_
  rintro e w8 ⟨v_f, f, rfl, Z_f, S_f, X⟩
  have S_a := Lib.hid (S_a.out.chg X (fun _ _ h => h))
  have S_b := Lib.hid (S_b.out.chg X (fun _ _ h => h))
  have S_c := Lib.hid (S_c.out.chg X (fun _ _ h => h))
  have S_d := Lib.hid (S_d.out.chg X (fun _ _ h => h))
  have S_j := Lib.hid (S_j.out.chg X (fun _ _ h => h))
  have S_e := Lib.hid (S_e.out.chg X (fun _ _ h => h))
  have Y : Hid (Chg (fun _ => False) w w8) := Y.out.trans X (fun _ _ h => h)
  clear q7 X
  have S_f := Lib.hid S_f
  have T_f : Hid (Tells f (fun n => mem n (NL a))) := (tells_clean Z_f).to (fun n => Iff.rfl)
  have M_f : Hid (∀ n, mem n (NL f) ↔ (mem n (NL a))) := T_f.out.2.2
  have l_f : Hid (f.length ≤ 30) := by have h := Z_f.length; have h_a := l_a.out; show _ ≤ _; omega
  clear Z_f
  clear S_j
  have E : Hid (e = f) := T_e.out.unique T_f.out (fun n => by by_cases h_a : mem n (NL a) <;> by_cases h_b : mem n (NL b) <;> simp [h_a, h_b])
  have qs := same_of v_e v_f e f w8 S_e.out S_f.out (by have := l_e.out; omega) (by have := l_f.out; omega)
  rw [decide_eq_true E.out] at qs
  have q8 := Lib.hid (qs)
  go_wp2_with fail
  refine q8.out.mono ?_
  rintro e w9 ⟨rfl, X⟩
  have S_a := Lib.hid (S_a.out.chg X (fun _ _ h => h))
  have S_b := Lib.hid (S_b.out.chg X (fun _ _ h => h))
  have S_c := Lib.hid (S_c.out.chg X (fun _ _ h => h))
  have S_d := Lib.hid (S_d.out.chg X (fun _ _ h => h))
  have S_e := Lib.hid (S_e.out.chg X (fun _ _ h => h))
  have S_f := Lib.hid (S_f.out.chg X (fun _ _ h => h))
  have Y : Hid (Chg (fun _ => False) w w9) := Y.out.trans X (fun _ _ h => h)
  clear q8 X
  clear qs E
  clear S_e S_f
  have q9 := Lib.hid (both_of v_b v_a b a w9 S_b.out S_a.out (by have := l_b.out; omega) (by have := l_a.out; omega))
  go_wp2_with fail
  refine q9.out.mono ?_
  rintro e w10 ⟨v_g, g, rfl, Z_g, S_g, X⟩
  have S_a := Lib.hid (S_a.out.chg X (fun _ _ h => h))
  have S_b := Lib.hid (S_b.out.chg X (fun _ _ h => h))
  have S_c := Lib.hid (S_c.out.chg X (fun _ _ h => h))
  have S_d := Lib.hid (S_d.out.chg X (fun _ _ h => h))
  have Y : Hid (Chg (fun _ => False) w w10) := Y.out.trans X (fun _ _ h => h)
  clear q9 X
  have S_g := Lib.hid S_g
  have T_g : Hid (Tells g (fun n => (mem n (NL b)) ∧ (mem n (NL a)))) := (tells_both Z_g).to (fun n => Iff.rfl)
  have M_g : Hid (∀ n, mem n (NL g) ↔ ((mem n (NL b)) ∧ (mem n (NL a)))) := T_g.out.2.2
  have l_g : Hid (g.length ≤ 60) := by have h := Z_g.length; have h_b := l_b.out; have h_a := l_a.out; show _ ≤ _; omega
  clear Z_g
  have E : Hid (g = c) := T_g.out.unique T_c.out (fun n => by by_cases h_a : mem n (NL a) <;> by_cases h_b : mem n (NL b) <;> simp [h_a, h_b])
  have qs := same_of v_g v_c g c w10 S_g.out S_c.out (by have := l_g.out; omega) (by have := l_c.out; omega)
  rw [decide_eq_true E.out] at qs
  have q10 := Lib.hid (qs)
  go_wp2_with fail
  refine q10.out.mono ?_
  rintro e w11 ⟨rfl, X⟩
  have S_a := Lib.hid (S_a.out.chg X (fun _ _ h => h))
  have S_b := Lib.hid (S_b.out.chg X (fun _ _ h => h))
  have S_c := Lib.hid (S_c.out.chg X (fun _ _ h => h))
  have S_d := Lib.hid (S_d.out.chg X (fun _ _ h => h))
  have S_g := Lib.hid (S_g.out.chg X (fun _ _ h => h))
  have Y : Hid (Chg (fun _ => False) w w11) := Y.out.trans X (fun _ _ h => h)
  clear q10 X
  clear qs E
  clear S_g
  have q11 := Lib.hid (touch_of v_c v_d c d w11 S_c.out S_d.out (by have := l_c.out; omega) (by have := l_d.out; omega))
  go_wp2_with fail
  refine q11.out.mono ?_
  rintro e w12 ⟨t, rfl, Z, X⟩
  have S_a := Lib.hid (S_a.out.chg X (fun _ _ h => h))
  have S_b := Lib.hid (S_b.out.chg X (fun _ _ h => h))
  have S_c := Lib.hid (S_c.out.chg X (fun _ _ h => h))
  have S_d := Lib.hid (S_d.out.chg X (fun _ _ h => h))
  have Y : Hid (Chg (fun _ => False) w w12) := Y.out.trans X (fun _ _ h => h)
  clear q11 X
  have E : t = [] := ((tells_both Z).to (N := fun n => ((mem n (NL a)) ∧ (mem n (NL b))) ∧ ((mem n (NL a)) ∧ ¬ (mem n (NL b)))) (fun n => by simp only [M_c.out n, M_d.out n])).empty (fun n => by by_cases h_a : mem n (NL a) <;> by_cases h_b : mem n (NL b) <;> simp [h_a, h_b])
  subst E
  clear Z
  have q12 := Lib.hid (touch_of v_d v_b d b w12 S_d.out S_b.out (by have := l_d.out; omega) (by have := l_b.out; omega))
  go_wp2_with fail
  refine q12.out.mono ?_
  rintro e w13 ⟨t, rfl, Z, X⟩
  have S_a := Lib.hid (S_a.out.chg X (fun _ _ h => h))
  have S_b := Lib.hid (S_b.out.chg X (fun _ _ h => h))
  have S_c := Lib.hid (S_c.out.chg X (fun _ _ h => h))
  have S_d := Lib.hid (S_d.out.chg X (fun _ _ h => h))
  have Y : Hid (Chg (fun _ => False) w w13) := Y.out.trans X (fun _ _ h => h)
  clear q12 X
  have E : t = [] := ((tells_both Z).to (N := fun n => ((mem n (NL a)) ∧ ¬ (mem n (NL b))) ∧ (mem n (NL b))) (fun n => by simp only [M_d.out n])).empty (fun n => by by_cases h_a : mem n (NL a) <;> by_cases h_b : mem n (NL b) <;> simp [h_a, h_b])
  subst E
  clear Z
  have q13 := Lib.hid (less_of v_c v_a c a w13 S_c.out S_a.out (by have := l_c.out; omega) (by have := l_a.out; omega))
  go_wp2_with fail
  refine q13.out.mono ?_
  rintro e w14 ⟨v_h, h, rfl, Z_h, S_h, X⟩
  have S_a := Lib.hid (S_a.out.chg X (fun _ _ h => h))
  have S_b := Lib.hid (S_b.out.chg X (fun _ _ h => h))
  have S_c := Lib.hid (S_c.out.chg X (fun _ _ h => h))
  have S_d := Lib.hid (S_d.out.chg X (fun _ _ h => h))
  have Y : Hid (Chg (fun _ => False) w w14) := Y.out.trans X (fun _ _ h => h)
  clear q13 X
  have S_h := Lib.hid S_h
  have T_h : Hid (Tells h (fun n => ((mem n (NL a)) ∧ (mem n (NL b))) ∧ ¬ (mem n (NL a)))) := (tells_less Z_h).to (fun n => by simp only [M_c.out n])
  have M_h : Hid (∀ n, mem n (NL h) ↔ (((mem n (NL a)) ∧ (mem n (NL b))) ∧ ¬ (mem n (NL a)))) := T_h.out.2.2
  have l_h : Hid (h.length ≤ 91) := by have h := Z_h.length; have h_c := l_c.out; have h_a := l_a.out; show _ ≤ _; omega
  clear Z_h
  have E : h = [] := T_h.out.empty (fun n => by by_cases h_a : mem n (NL a) <;> by_cases h_b : mem n (NL b) <;> simp [h_a, h_b])
  subst E
  obtain ⟨a_h, c_h, rfl⟩ := S_h.out.length
  clear S_h
  go_wp2
  go_ret
  exact ⟨rfl, Y.out⟩
end Go.Proofs.Ytfeomnkgkppdlaa
