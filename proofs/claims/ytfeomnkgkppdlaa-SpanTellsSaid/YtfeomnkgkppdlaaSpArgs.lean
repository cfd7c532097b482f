/- What the rows of this seat share: an argument opened. -/
import Derived.Test.YtfeomnkgkppdlaaSpOf
import Derived.Test.YtfeomnkgkppdlaaOpen
import Derived.ProofKit
import Derived.OpenShut
set_option linter.unusedVariables false
set_option linter.unusedSimpArgs false
namespace Go.Proofs.Ytfeomnkgkppdlaa
open Go Go.RowKit Go.Sort Go.Lib Go.ChangeShapes Go.WideShapes Go.ChangeAt Go.Deep

theorem ownK : ownKnob Try.prog.godebug = none := by kernel_rfl
theorem laidOut : laidOutB Try.prog = true := by kernel_rfl
theorem agg_key {H : Type} {enc : TypeId × Value → H} {w : World} {base base2 : Nat} {spare : Nat → Bool} {held : Bool} {r : Reach} {v : Value} {d : DataW H} {ps : List MemPlace}
    (hv : Value.okWide Try.prog w r base2 26 v) (h : DataW.Trod enc Try.prog w base spare held 26 v d ps) : ∃ k : Key, v = keyV k := by
  simp only [Value.okWide, Try.underlying26] at hv
  obtain ⟨cs, rfl, _⟩ := hv
  obtain ⟨f, hf⟩ := h
  obtain ⟨s, hs⟩ := open_key hf
  refine ⟨s, ?_⟩
  unfold keyV
  rw [← hs]
  simp [Value.cells]
theorem spans_arg {H : Type} {enc : TypeId × Value → H} {w : World} {base base2 : Nat} {spare : Nat → Bool} {held : Bool} {r : Reach} {v : Value} {d : DataW H} {ps : List MemPlace}
    (hv : Value.okWide Try.prog w r base2 22 v) (h : DataW.Trod enc Try.prog w base spare held 22 v d ps) : ∃ ss, SpansIn w v ss := by
  obtain ⟨a, len, cap, rfl⟩ := okWide_slice Try.underlying22 hv
  obtain ⟨f, hf⟩ := h
  obtain ⟨a', cap', zs, e, hl, hm, hr, hn⟩ := open_row (T := 22) (E := 28) (k := 49) (ec := spanCells) Try.underlying22 cellsSpan (by decide) spanCells_length open_span hf
  simp only [Value.cells, List.cons.injEq, and_true] at e
  exact ⟨zs, a', cap', e, hl, hr, hn⟩
theorem keys_arg {H : Type} {enc : TypeId × Value → H} {w : World} {base base2 : Nat} {spare : Nat → Bool} {held : Bool} {r : Reach} {v : Value} {d : DataW H} {ps : List MemPlace}
    (hv : Value.okWide Try.prog w r base2 36 v) (h : DataW.Trod enc Try.prog w base spare held 36 v d ps) :
    ∃ (a : Option Addr) (cap : Nat) (ks : List Key), v = .slice a ks.length cap ∧ ks.length ≤ cap ∧ cap ≤ maxLen ∧ (0 < ks.length → ∃ b o, a = some ⟨b, o, none⟩ ∧ RowAt keyCells 24 w b o ks) ∧ (a = none → ks.length = 0 ∧ cap = 0) := by
  obtain ⟨a, len, cap, rfl⟩ := okWide_slice Try.underlying36 hv
  obtain ⟨f, hf⟩ := h
  obtain ⟨a', cap', zs, e, hl, hm, hr, hn⟩ := open_row (T := 36) (E := 26) (k := 24) (ec := keyCells) Try.underlying36 cellsKey (by decide) keyCells_length open_key hf
  simp only [Value.cells, List.cons.injEq, and_true] at e
  exact ⟨a', cap', zs, e, hl, hm, hr, hn⟩
end Go.Proofs.Ytfeomnkgkppdlaa
