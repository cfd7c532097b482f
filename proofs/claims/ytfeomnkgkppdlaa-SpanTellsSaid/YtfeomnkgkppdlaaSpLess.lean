/- Less, Touch and cut by their contracts. -/
import Derived.Test.YtfeomnkgkppdlaaSpRest
set_option linter.unusedVariables false
set_option linter.unusedSimpArgs false
namespace Go.Proofs.Ytfeomnkgkppdlaa
open Go Go.RowKit Go.Sort Go.Lib
attribute [local go_sem ↓] run_size24 run_size49 run_size25
attribute [local simp high] run_size24x run_size49x run_size25x
attribute [local go_sem ↓] to_span1 to_span2 to_span3 to_key1 to_spans1 to_keys1 to_bd0 to_bd1
attribute [local simp] is_bFrEn is_bTo is_bEn is_bFrTo is_bSpans1 is_bKeys1 run_bFrEn run_bTo run_bEn run_bFrTo run_bSpans1 run_bKeys1 is_bBdKey is_bBdEn is_bSp3 run_bBdKey run_bBdEn run_bBd0 run_bSp3

/-- the answers of Both and Less -/
def BothOf (xa xb out : List Sp) : Prop := ∃ ca cb, CleanOf xa ca ∧ CleanOf xb cb ∧ out = bothF ca cb
def LessOf (xa xb out : List Sp) : Prop := ∃ cb, CleanOf xb cb ∧ BothOf xa (restL zeroBd cb) out
theorem BothOf.length {xa xb out : List Sp} (h : BothOf xa xb out) : out.length ≤ xa.length + xb.length := by
  obtain ⟨ca, cb, h1, h2, rfl⟩ := h
  have := bothF_length _ ca cb (Nat.le_refl _)
  have := h1.length
  have := h2.length
  omega
theorem LessOf.length {xa xb out : List Sp} (h : LessOf xa xb out) : out.length ≤ xa.length + xb.length + 1 := by
  obtain ⟨cb, h1, h2⟩ := h
  have := h1.length
  have := h2.length
  have := restL_length cb zeroBd
  omega
theorem both_of (va vb : Value) (xa xb : List Sp) (w : World) (ha : SpansIn w va xa) (hb : SpansIn w vb xb) (hla : xa.length ≤ 1000) (hlb : xb.length ≤ 1000) :
    Calls Try.prog 15 #[va, vb] w fun e w' => ∃ v' out, e = .returned v' ∧ BothOf xa xb out ∧ SpansIn w' v' out ∧ Chg (fun _ => False) w w' :=
  (both_any va vb xa xb w ha hb hla hlb).mono fun e w' ⟨v', ca, cb, he, h1, h2, h3, h4⟩ => ⟨v', _, he, ⟨ca, cb, h1, h2, rfl⟩, h3, h4⟩

set_option maxHeartbeats 1000000 in
theorem less_of (va vb : Value) (xa xb : List Sp) (w : World) (ha : SpansIn w va xa) (hb : SpansIn w vb xb) (hla : xa.length ≤ 900) (hlb : xb.length ≤ 900) :
    Calls Try.prog 16 #[va, vb] w fun e w' => ∃ v' out, e = .returned v' ∧ LessOf xa xb out ∧ SpansIn w' v' out ∧ Chg (fun _ => False) w w' := by
  have c1 := Lib.hid (clean_spans vb xb w hb (by omega))
  have HA := Lib.hid ha
  clear ha hb
  go_enter Try.func16, Try.ntmps16
  go_wp2_with fail
  refine c1.out.mono ?_
  rintro e w1 ⟨vb1, cb, rfl, CB, SB, X1⟩
  have CB := Lib.hid CB
  have X1 := Lib.hid X1
  have c2 := Lib.hid (rest_any vb1 cb w1 SB (by have := CB.out.length; omega))
  clear c1 SB
  go_wp2_with fail
  refine c2.out.mono ?_
  rintro e w2 ⟨vr, rfl, SR, X2⟩
  have X2 : Hid (Chg (fun _ => False) w w2) := X1.out.trans X2 (fun _ _ h => h)
  have c3 := Lib.hid (both_of va vr xa (restL zeroBd cb) w2 (HA.out.chg X2.out (fun _ _ h => h)) SR (by omega) (by have := CB.out.length; have := restL_length cb zeroBd; omega))
  clear c2 SR
  go_wp2_with fail
  refine c3.out.mono ?_
  rintro e w3 ⟨vo, out, rfl, BO, SO, X3⟩
  have BO := Lib.hid BO
  have SO := Lib.hid SO
  have X3 : Hid (Chg (fun _ => False) w w3) := X2.out.trans X3 (fun _ _ h => h)
  clear c3
  go_wp2
  go_ret
  exact ⟨_, out, rfl, ⟨cb, CB.out, BO.out⟩, SO.out, X3.out⟩
set_option maxHeartbeats 1000000 in
theorem touch_of (va vb : Value) (xa xb : List Sp) (w : World) (ha : SpansIn w va xa) (hb : SpansIn w vb xb) (hla : xa.length ≤ 1000) (hlb : xb.length ≤ 1000) :
    Calls Try.prog 17 #[va, vb] w fun e w' => ∃ out, e = .returned (.bool (decide (0 < out.length))) ∧ BothOf xa xb out ∧ Chg (fun _ => False) w w' := by
  have c3 := Lib.hid (both_of va vb xa xb w ha hb hla hlb)
  clear ha hb
  go_enter Try.func17, Try.ntmps17
  go_wp2_with fail
  refine c3.out.mono ?_
  rintro e w3 ⟨vo, out, rfl, BO, SO, X3⟩
  have BO := Lib.hid BO
  have X3 := Lib.hid X3
  obtain ⟨a, c, rfl⟩ := SO.length
  clear c3 SO
  go_wp2
  go_ret
  refine ⟨out, ?_, BO.out, X3.out⟩
  show Ending.returned (Value.bool (decide _)) = _
  congr 2
theorem SpansIn.cut {w : World} {v : Value} {ss : List Sp} (h : SpansIn w v ss) (k : Nat) : ∃ a c, v = .slice a ss.length c ∧ (∀ W, (Instr.sliceAt 22 v none (some (.int .i64 (min (ss.length : Int) (k : Int)))) none).run Try.prog W = .ok (.slice a (min ss.length k) c) W) ∧ SpansIn w (.slice a (min ss.length k) c) (ss.take k) := by
  obtain ⟨a, c, rfl, hc, hr, hn⟩ := h
  refine ⟨a, c, rfl, fun W => ?_, ⟨a, c, by rw [List.length_take, Nat.min_comm], by rw [List.length_take]; omega, fun hp => ?_, fun h => ?_⟩⟩
  · have e : (min (ss.length : Int) (k : Int)) = ((min ss.length k : Nat) : Int) := by omega
    rw [e]
    exact cut_to 22 28 Try.underlying22 49 Try.sizeOf28 a ss.length c (min ss.length k) (by omega) W
  · obtain ⟨b, o, e, hr2⟩ := hr (by rw [List.length_take] at hp; omega)
    exact ⟨b, o, e, RowAt.take (enc := spanCells) (k := 49) hr2 k⟩
  · have := hn h
    rw [List.length_take]; omega
set_option maxHeartbeats 1000000 in
theorem cut_of (v : Value) (ss : List Sp) (w : World) (h : SpansIn w v ss) :
    Calls Try.prog 11 #[v] w fun e w' => ∃ v', e = .returned v' ∧ w'.ownsRow w.heap.size 28 49 v' (ss.take 30).length (flat spanCells (ss.take 30)) ∧ Chg (fun _ => False) w w' := by
  obtain ⟨i0, hi, hz0, hz1, hz2⟩ := info_parts info28
  obtain ⟨a, c, rfl, hc0, hs⟩ := h.cut 30
  have hc : ∀ W, (Instr.sliceAt 22 (.slice a ss.length c) none (some (.int .i64 (min (ss.length : Int) 30))) none).run Try.prog W = .ok (.slice a (min ss.length 30) c) W := hc0
  clear h hc0
  have HS := Lib.hid hs
  obtain ⟨_, _, _, _, _, hnn⟩ := hs
  have LL : Hid ((ss.take 30).length = min ss.length 30) := by show _ = _; rw [List.length_take, Nat.min_comm]
  have NN : Hid (a = none → min ss.length 30 = 0 ∧ c = 0) := by
    intro ha
    obtain ⟨a', c', e, _, _, hn'⟩ := HS.out
    simp only [Value.slice.injEq] at e
    obtain ⟨rfl, e2, rfl⟩ := e
    have := hn' ha
    rw [← e2] at this
    exact this
  clear hnn
  have hl : min ss.length 30 ≤ 30 := by omega
  generalize min ss.length 30 = m at hc HS LL NN hl
  generalize ss.take 30 = ts at HS LL ⊢
  have N1 : Hid ((flat spanCells ts).length = m * 49) := by show _ = _; rw [flat_length spanCells_length, LL.out]
  have N3 : Hid (∀ u ∈ flat spanCells ts, u.oneCell' = true) := flat_one spanCells_one ts
  have N2 : Hid (∀ ad, a = some ad → ∀ j u, (flat spanCells ts)[j]? = some u → (w.alloc (.cells #[] 28)).cell? (ad.add j) = some u) := (HS.out.ext ((Ext.refl w).alloc _)).news
  have own0 := Lib.hid (World.ownsRow_made (e := 28) (size := 49) (base := w.heap.size) w #[] 0 (Nat.le_refl _) (Nat.zero_le _) (by simp))
  go_enter Try.func11, Try.ntmps11
  go_wp2_with (at_builtin; refine wpList_append_any rfl _ _ 22 rfl w.heap.size 28 i0 (.agg (spanCells zeroSp).toArray) 49 49 Try.underlying22 hi hz0 hz1 hz2 rfl (by decide) _ _ _ rfl own0.out a m c (flat spanCells ts) rfl N1.out NN.out N2.out N3.out ?c1 ?c2 ?c3 ?_)
  case c1 => unfold maxLen; omega
  case c2 => omega
  case c3 => simp
  intro v' w1 hown hch
  go_wp2
  go_ret
  refine ⟨_, rfl, by rw [LL.out]; simpa using hown, ?_⟩
  exact (((Ext.refl w).alloc _).chg (fun _ => False)).trans hch (fun i hi h => absurd hi (by omega))
end Go.Proofs.Ytfeomnkgkppdlaa
