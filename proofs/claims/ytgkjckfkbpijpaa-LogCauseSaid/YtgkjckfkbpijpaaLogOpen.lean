/- The commits that a statement is given, opened. -/
import Derived.Test.YtgkjckfkbpijpaaLogComs
import Derived.Test.YtgkjckfkbpijpaaOpen
set_option linter.unusedVariables false
set_option linter.unusedSimpArgs false
namespace Go.Proofs.Ytgkjckfkbpijpaa
open Go Go.RowKit Go.Sort Go.Lib Go.ChangeShapes Go.WideShapes Go.ChangeAt Go.Deep

theorem cells32 : Try.prog.cellsOf 32 = 1 := by kernel_rfl
instance : Inhabited (Value × List Key) := ⟨(.nilFunc, [])⟩
section
variable {H : Type} {enc : TypeId × Value → H} {w : World} {base fuel : Nat} {spare : Nat → Bool} {held : Bool} {cs : List Value} {x : DataW H × List MemPlace}
theorem open_keysV (h : DataW.trod enc Try.prog w base spare held fuel 32 cs = some x) : ∃ v ks, cs = [v] ∧ KeysV w v ks := by
  obtain ⟨a, cap, zs, rfl, hl, _, hr, _⟩ := open_row (T := 32) (E := 24) (k := 24) (ec := keyCells) Try.underlying32 cellsKey (by decide) keyCells_length open_key h
  exact ⟨_, zs, rfl, ⟨a, cap, rfl, hl, hr⟩⟩
/-- a slice of spans, as it comes in -/
structure SpansV (w : World) (v : Value) (ss : List Sp) : Prop where
  shape : ∃ a c, v = .slice a ss.length c ∧ ss.length ≤ c ∧ c ≤ maxLen ∧ (0 < ss.length → ∃ b o, a = some ⟨b, o, none⟩ ∧ RowAt spanCells K49 w b o ss) ∧ (a = none → ss.length = 0 ∧ c = 0)
theorem open_spansV (h : DataW.trod enc Try.prog w base spare held fuel 36 cs = some x) : ∃ v ss, cs = [v] ∧ SpansV w v ss := by
  obtain ⟨a, cap, zs, rfl, hl, hm, hr, hn⟩ := open_row (T := 36) (E := 26) (k := 49) (ec := spanCells) Try.underlying36 cellsSpan (by decide) spanCells_length open_span h
  exact ⟨_, zs, rfl, ⟨a, cap, rfl, hl, hm, hr, hn⟩⟩
theorem open_coms (h : DataW.trod enc Try.prog w base spare held fuel 22 cs = some x) :
    ∃ (a : Option Addr) (cap : Nat) (vs : List Value) (kss : List (List Key)), cs = [.slice a kss.length cap] ∧ kss.length ≤ cap ∧ cap ≤ maxLen ∧ (0 < kss.length → ∃ b o, a = some ⟨b, o, none⟩ ∧ ComsIn w b o vs kss) := by
  rcases open_slice1 Try.underlying22 cells32 h with ⟨rfl, _⟩ | ⟨a, len, cap, m, n, V, D, Pl, rfl, hb, hl, hm, hmm, rfl, hx⟩
  · exact ⟨none, 0, [], [], rfl, Nat.le_refl _, Nat.zero_le _, fun h => absurd h (by simp)⟩
  · have hlm : len ≤ m := by rw [hmm]; split <;> omega
    have key : ∀ i, i < len → ∃ z : Value × List Key, w.cell? (a.add i) = some z.1 ∧ KeysV w z.1 z.2 := by
      intro i hi
      obtain ⟨h1, h2⟩ := hx i (by omega)
      obtain ⟨v, ks, e, hk⟩ := open_keysV h2
      simp only [List.cons.injEq, and_true] at e
      exact ⟨(v, ks), by rw [← e]; exact h1, hk⟩
    obtain ⟨f, hf⟩ := choose_lt key
    refine ⟨some a, cap, (List.range len).map fun i => (f i).1, (List.range len).map fun i => (f i).2, by simp, by simpa using hl, hm, ?_⟩
    intro hp
    have hp' : 0 < len := by simpa using hp
    have hs : a.spot = none := by
      have := spot_none (hf 0 hp').1
      simpa [Addr.add] using this
    obtain ⟨b, o, sp⟩ := a
    simp only at hs
    subst hs
    refine ⟨b, o, rfl, ⟨by simp, fun i hi => ?_, fun i hi hi' => ?_⟩⟩
    · have hi' : i < len := by simpa using hi
      have := (hf i hi').1
      rw [Addr.add_lit] at this
      simpa using this
    · have hi' : i < len := by simpa using hi
      simpa using (hf i hi').2
end
end Go.Proofs.Ytgkjckfkbpijpaa
