/- wainscotlaw08's join by its contract; what a slice of spans is appended from. -/
import Derived.Test.YtfeomnkgkppdlaaSpOf
set_option linter.unusedVariables false
set_option linter.unusedSimpArgs false
namespace Go.Proofs.Ytfeomnkgkppdlaa
open Go Go.RowKit Go.Sort Go.Lib
attribute [local go_sem ↓] run_size24 run_size49 run_size25
attribute [local simp high] run_size24x run_size49x run_size25x
attribute [local go_sem ↓] to_span1 to_span2 to_span3 to_key1 to_spans1 to_keys1 to_bd0 to_bd1
attribute [local simp] is_bFrEn is_bTo is_bEn is_bFrTo is_bSpans1 is_bKeys1 run_bFrEn run_bTo run_bEn run_bFrTo run_bSpans1 run_bKeys1 is_bBdKey is_bBdEn is_bSp3 run_bBdKey run_bBdEn run_bBd0 run_bSp3

theorem SpansIn.parts {w : World} {v : Value} {ss : List Sp} (h : SpansIn w v ss) : ∃ a c, v = .slice a ss.length c ∧ SpansIn w (.slice a ss.length c) ss ∧ (a = none → ss.length = 0 ∧ c = 0) := by
  obtain ⟨a, c, rfl, hc, hr, hn⟩ := h
  exact ⟨a, c, rfl, ⟨a, c, rfl, hc, hr, hn⟩, hn⟩

theorem spansIn_ownA {w : World} {B : Nat} {v : Value} {n : Nat} {xs : List Value} {ss : List Sp} (h : w.ownsRow B 28 49 v n xs) (e : xs = flat spanCells ss) : SpansIn w v ss := by
  subst e; exact spansIn_own h

theorem Tells.to {a : List Sp} {M N : Nat → Prop} (h : Tells a M) (e : ∀ n, M n ↔ N n) : Tells a N := ⟨h.1, h.2.1, fun n => (h.2.2 n).trans (e n)⟩
set_option maxHeartbeats 1000000 in
theorem join_of (va vb : Value) (xa xb : List Sp) (w : World) (ha : SpansIn w va xa) (hb : SpansIn w vb xb) (hla : xa.length ≤ 100000) (hlb : xb.length ≤ 100000) :
    Calls Try.prog 18 #[va, vb] w fun e w' => ∃ v', e = .returned v' ∧ SpansIn w' v' (xa ++ xb) ∧ Chg (fun _ => False) w w' := by
  obtain ⟨i0, hi, hz0, hz1, hz2⟩ := info_parts info28
  obtain ⟨a, c, rfl, HA, na⟩ := ha.parts
  obtain ⟨b, d, rfl, HB, nb⟩ := hb.parts
  have HA := Lib.hid HA
  have HB := Lib.hid HB
  have NA := Lib.hid na
  have NB := Lib.hid nb
  clear na nb ha hb
  have N1 : Hid ((flat spanCells xa).length = xa.length * 49) := flat_length spanCells_length xa
  have M1 : Hid ((flat spanCells xb).length = xb.length * 49) := flat_length spanCells_length xb
  have N3 : Hid (∀ u ∈ flat spanCells xa, u.oneCell' = true) := flat_one spanCells_one xa
  have M3 : Hid (∀ u ∈ flat spanCells xb, u.oneCell' = true) := flat_one spanCells_one xb
  have XA : Hid (Chg (fun _ => False) w (w.alloc (.cells #[] 28))) := chg_alloc _ _ _
  have HA := Lib.hid (HA.out.chg XA.out (fun _ _ h => h))
  have own0 := Lib.hid (World.ownsRow_made (e := 28) (size := 49) (base := w.heap.size) w #[] 0 (Nat.le_refl _) (Nat.zero_le _) (by simp))
  generalize hn : xa.length = n at HA NA N1 hla
  generalize hm : xb.length = m at HB NB M1 hlb
  have HN := Lib.hid hn
  have HM := Lib.hid hm
  clear hn hm
  go_enter Try.func18, Try.ntmps18
  go_wp2_with (at_builtin; refine wpList_append_any rfl _ _ 22 rfl w.heap.size 28 i0 (.agg (spanCells zeroSp).toArray) 49 49 Try.underlying22 hi hz0 hz1 hz2 rfl (by decide) _ _ _ rfl own0.out a n c (flat spanCells xa) rfl N1.out NA.out HA.out.news N3.out ?c1 ?c2 ?c3 ?_)
  case c1 => unfold maxLen; omega
  case c2 => omega
  case c3 => simp
  intro v1 w1 hown1 hch1
  have X1 : Hid (Chg (fun _ => False) w w1) := XA.out.trans hch1 (fun i hi h => absurd hi (by omega))
  have HB1 := Lib.hid (HB.out.chg X1.out (fun _ _ h => h))
  have own1 : Hid (w1.ownsRow w.heap.size 28 49 v1 n (flat spanCells xa)) := by
    show w1.ownsRow w.heap.size 28 49 v1 n (flat spanCells xa)
    simpa using hown1
  have sz1 : w.heap.size ≤ w1.heap.size := X1.out.size
  clear hown1 hch1 own0 HA N1 N3 NA XA HB
  go_wp2_with (at_builtin; refine wpList_append_any rfl _ _ 22 rfl w.heap.size 28 i0 (.agg (spanCells zeroSp).toArray) 49 49 Try.underlying22 hi hz0 hz1 hz2 rfl (by decide) _ _ _ rfl own1.out b m d (flat spanCells xb) rfl M1.out NB.out HB1.out.news M3.out ?c4 ?c5 ?c6 ?_)
  case c4 => unfold maxLen; omega
  case c5 => omega
  case c6 => exact sz1
  intro v2 w2 hown2 hch2
  go_wp2
  go_ret
  refine ⟨_, rfl, spansIn_ownA hown2 ?_, X1.out.trans hch2 (fun i hi h => absurd hi (by omega))⟩
  exact (flat_append xa xb).symm
end Go.Proofs.Ytfeomnkgkppdlaa
