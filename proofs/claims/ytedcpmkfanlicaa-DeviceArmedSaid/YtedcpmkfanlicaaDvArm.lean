/- A device that is armed, beside one that is crashed itself: a plain law on states. -/
import Derived.Test.YtedcpmkfanlicaaDvLaw
set_option linter.unusedVariables false
set_option linter.unusedSimpArgs false
namespace Go.Proofs.Ytedcpmkfanlicaa
open Go Go.RowKit Go.Sort Go.Lib Go.Maps
structure ArmP (j N : Nat) (mask torn bytes : Int) (sa sb : St) : Prop where
  G : sa.G = sb.G
  lo : sa.lo = sb.lo
  na : sa.d.n = 8
  nb : sb.d.n = 8
  ck : sa.d.clock = sb.d.clock
  ab : sb.d.armed ≤ 0
  ahead : j < N → sa.d.down = false ∧ sb.d.down = false ∧ sa.d.armed = (N : Int) - j ∧ sa.d.mask = mask ∧ sa.d.torn = torn ∧ sa.d.bytes = bytes
  behind : N ≤ j → sa.d.down = true ∧ sb.d.down = true
def stepA (o : OpV) (s : St) : St × Int := if o.kind = 2 then flushS s else writeS s (o.n % 16) (content o.c)
theorem armP_new (N : Nat) (h : 1 ≤ N) (mask torn bytes : Int) : ArmP 0 N mask torn bytes (armS (newS 8) N mask torn bytes) (newS 8) :=
  ⟨rfl, rfl, by show (newS 8).d.n = 8; decide, by decide, rfl, Int.le_refl _, fun _ => ⟨rfl, rfl, by show max (N : Int) 0 = _; omega, rfl, rfl, rfl⟩, fun h' => by omega⟩
section
variable {j N : Nat} {mask torn bytes : Int} {sa sb : St}
theorem ArmP.down (h : ArmP j N mask torn bytes sa sb) : sa.d.down = sb.d.down := by
  by_cases hj : j < N
  · rw [(h.ahead hj).1, (h.ahead hj).2.1]
  · rw [(h.behind (by omega)).1, (h.behind (by omega)).2]
def armC (s : St) : St := { s with d := { s.d with calls := s.d.calls + 1, armed := s.d.armed - 1 } }
theorem countS_armed {s : St} (hd : s.d.down = false) (ha : 2 ≤ s.d.armed) : countS s = (armC s, true) := by
  unfold countS
  rw [hd, if_neg (by simp), if_neg (by omega), if_neg (by omega)]
  rfl
theorem ArmP.go (h : ArmP j N mask torn bytes sa sb) (hj : j + 1 < N) (o : OpV) : (stepA o sa).2 = (stepA o sb).2 ∧ ArmP (j + 1) N mask torn bytes (stepA o sa).1 (stepA o sb).1 := by
  obtain ⟨da, db, aa, am, at_, ay⟩ := h.ahead (by omega)
  have ca := countS_armed (s := sa) da (by omega)
  have cb := countS_up (s := sb) db h.ab
  have next : ∀ {ta tb : St}, ta.G = tb.G → ta.lo = tb.lo → ta.d.n = 8 → tb.d.n = 8 → ta.d.clock = tb.d.clock → tb.d.armed ≤ 0 → ta.d.down = false → tb.d.down = false → ta.d.armed = sa.d.armed - 1 → ta.d.mask = sa.d.mask → ta.d.torn = sa.d.torn → ta.d.bytes = sa.d.bytes → ArmP (j + 1) N mask torn bytes ta tb :=
    fun h1 h2 h3 h4 h5 h6 h7 h8 h9 h10 h11 h12 => ⟨h1, h2, h3, h4, h5, h6, fun _ => ⟨h7, h8, by rw [h9, aa]; push_cast; omega, by rw [h10, am], by rw [h11, at_], by rw [h12, ay]⟩, fun h' => by omega⟩
  unfold stepA
  split
  · have fa : flushS sa = (settleS (armC sa), 0) := by unfold flushS; rw [ca, if_neg (by rw [da]; simp), if_neg (by simp)]
    rw [fa, flushS_up db h.ab]
    refine ⟨rfl, next ?_ rfl h.na h.nb h.ck h.ab da db rfl rfl rfl rfl⟩
    show settleG resF 0 sa.G sa.lo = settleG resF 0 sb.G sb.lo
    rw [h.G, h.lo]
  · by_cases hr : o.n % 16 < 0 ∨ 8 ≤ o.n % 16
    · have ma : mayS (armC sa) (o.n % 16) = 1 := by
        unfold mayS
        rw [if_neg (by show ¬ sa.d.down = true; rw [da]; simp), if_pos (by show o.n % 16 < 0 ∨ sa.d.n ≤ o.n % 16; rw [h.na]; exact hr)]
      have wa : writeS sa (o.n % 16) (content o.c) = (armC sa, 1) := by
        unfold writeS
        rw [ca, if_neg (by simp), if_neg (by rw [ma]; decide), ma]
      rw [wa, writeS_out db h.ab (by rw [h.nb]; exact hr)]
      exact ⟨rfl, next h.G h.lo h.na h.nb h.ck h.ab da db rfl rfl rfl rfl⟩
    · have ma : mayS (armC sa) (o.n % 16) = 0 := by
        unfold mayS
        rw [if_neg (by show ¬ sa.d.down = true; rw [da]; simp), if_neg (by show ¬ (o.n % 16 < 0 ∨ sa.d.n ≤ o.n % 16); rw [h.na]; exact hr)]
      have wa : writeS sa (o.n % 16) (content o.c) = (putS (armC sa) (o.n % 16) (content o.c), 0) := by
        unfold writeS
        rw [ca, if_neg (by simp), if_pos ma]
      rw [wa, writeS_up db h.ab (by omega) (by rw [h.nb]; omega)]
      refine ⟨rfl, next h.G ?_ h.na h.nb ?_ h.ab da db rfl rfl rfl rfl⟩
      · show putL sa.lo _ _ sa.d.clock = putL sb.lo _ _ sb.d.clock
        rw [h.lo, h.ck]
      · show clockP sa.lo _ sa.d.clock = clockP sb.lo _ sb.d.clock
        rw [h.lo, h.ck]
theorem ArmP.falls (h : ArmP j N mask torn bytes sa sb) (hj : j + 1 = N) (o : OpV) : (stepA o sa).2 = 11 ∧ ArmP (j + 1) N mask torn bytes (stepA o sa).1 (crashS sb mask torn bytes) := by
  obtain ⟨da, db, aa, am, at_, ay⟩ := h.ahead (by omega)
  have ca := countS_fall (s := sa) da (by omega)
  have e : stepA o sa = ((countS sa).1, 11) := by
    unfold stepA
    split
    · unfold flushS; rw [if_neg (by rw [da]; simp), if_pos (by rw [ca])]
    · unfold writeS; rw [if_pos (by rw [ca])]
  rw [e, ca, crashS_up db]
  refine ⟨rfl, ⟨?_, rfl, h.na, h.nb, h.ck, Int.le_refl _, fun h' => by omega, fun _ => ⟨rfl, rfl⟩⟩⟩
  show settleG (resC sa.d.mask sa.d.torn (toBytes sa.d.bytes)) 0 sa.G sa.lo = settleG (resC mask torn (toBytes bytes)) 0 sb.G sb.lo
  rw [am, at_, ay, h.G, h.lo]
theorem ArmP.lies (h : ArmP j N mask torn bytes sa sb) (hj : N ≤ j) (o : OpV) : (stepA o sa).2 = (stepA o sb).2 ∧ ArmP (j + 1) N mask torn bytes (stepA o sa).1 (stepA o sb).1 := by
  obtain ⟨da, db⟩ := h.behind hj
  have e : ∀ s : St, s.d.down = true → stepA o s = (s, 11) := fun s hd => by
    unfold stepA
    split
    · exact flushS_down hd
    · exact writeS_down hd
  rw [e sa da, e sb db]
  exact ⟨rfl, h.G, h.lo, h.na, h.nb, h.ck, h.ab, fun h' => by omega, fun _ => ⟨da, db⟩⟩
/-- but for the call at which it falls -/
theorem ArmP.step (h : ArmP j N mask torn bytes sa sb) (hj : ¬ j + 1 = N) (o : OpV) : (stepA o sa).2 = (stepA o sb).2 ∧ ArmP (j + 1) N mask torn bytes (stepA o sa).1 (stepA o sb).1 := by
  by_cases h1 : j + 1 < N
  · exact h.go h1 o
  · exact h.lies (by omega) o
end
end Go.Proofs.Ytedcpmkfanlicaa
