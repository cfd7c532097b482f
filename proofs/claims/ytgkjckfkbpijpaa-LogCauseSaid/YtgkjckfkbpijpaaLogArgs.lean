/- What the rows of this seat share: an argument opened. -/
import Derived.Test.YtgkjckfkbpijpaaLogOpen
import Derived.ProofKit
import Derived.OpenShut
set_option linter.unusedVariables false
set_option linter.unusedSimpArgs false
namespace Go.Proofs.Ytgkjckfkbpijpaa
open Go Go.RowKit Go.Sort Go.Lib Go.ChangeShapes Go.WideShapes Go.ChangeAt Go.Deep

theorem ownK : ownKnob Try.prog.godebug = none := by kernel_rfl
theorem laidOut : laidOutB Try.prog = true := by kernel_rfl
theorem agg_span {H : Type} {enc : TypeId × Value → H} {w : World} {base base2 : Nat} {spare : Nat → Bool} {held : Bool} {r : Reach} {v : Value} {d : DataW H} {ps : List MemPlace}
    (hv : Value.okWide Try.prog w r base2 26 v) (h : DataW.Trod enc Try.prog w base spare held 26 v d ps) : ∃ s : Sp, v = spanV s := by
  obtain ⟨cs, rfl, _⟩ := okWide_struct Try.underlying26 hv
  obtain ⟨f, hf⟩ := h
  obtain ⟨s, hs⟩ := open_span hf
  refine ⟨s, ?_⟩
  unfold spanV
  rw [← hs]
  simp [Value.cells]
theorem coms_arg {H : Type} {enc : TypeId × Value → H} {w : World} {base base2 : Nat} {spare : Nat → Bool} {held : Bool} {r : Reach} {v : Value} {d : DataW H} {ps : List MemPlace}
    (hv : Value.okWide Try.prog w r base2 22 v) (h : DataW.Trod enc Try.prog w base spare held 22 v d ps) :
    ∃ (a : Option Addr) (cap : Nat) (vs : List Value) (kss : List (List Key)), v = .slice a kss.length cap ∧ kss.length ≤ 9223372036854775807 ∧ (0 < kss.length → ∃ b o, a = some ⟨b, o, none⟩ ∧ ComsIn w b o vs kss) := by
  obtain ⟨a, len, cap, rfl⟩ := okWide_slice Try.underlying22 hv
  obtain ⟨f, hf⟩ := h
  obtain ⟨a', cap', vs, kss, e, h1, h2, h3⟩ := open_coms hf
  simp only [Value.cells, List.cons.injEq, Value.slice.injEq, and_true] at e
  obtain ⟨rfl, rfl, rfl⟩ := e
  exact ⟨_, _, vs, kss, rfl, by have : maxLen ≤ 9223372036854775807 := by decide
                                omega, h3⟩

theorem spans_arg {H : Type} {enc : TypeId × Value → H} {w : World} {base base2 : Nat} {spare : Nat → Bool} {held : Bool} {r : Reach} {v : Value} {d : DataW H} {ps : List MemPlace}
    (hv : Value.okWide Try.prog w r base2 36 v) (h : DataW.Trod enc Try.prog w base spare held 36 v d ps) :
    ∃ (a : Option Addr) (cap : Nat) (ss : List Sp), v = .slice a ss.length cap ∧ ss.length ≤ cap ∧ cap ≤ maxLen ∧ (0 < ss.length → ∃ b o, a = some ⟨b, o, none⟩ ∧ RowAt spanCells K49 w b o ss) ∧ (a = none → ss.length = 0 ∧ cap = 0) := by
  obtain ⟨a, len, cap, rfl⟩ := okWide_slice Try.underlying36 hv
  obtain ⟨f, hf⟩ := h
  obtain ⟨v', ss, e, ⟨a', cap', e', h1, h2, h3, h4⟩⟩ := open_spansV hf
  simp only [Value.cells, List.cons.injEq, and_true] at e
  rw [e'] at e
  exact ⟨_, _, ss, e, h1, h2, h3, h4⟩
end Go.Proofs.Ytgkjckfkbpijpaa
