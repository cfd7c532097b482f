/- What Both computes; a slice of spans without its first. -/
import Derived.Test.YtfeomnkgkppdlaaSpCleanW
set_option linter.unusedVariables false
set_option linter.unusedSimpArgs false
namespace Go.Proofs.Ytfeomnkgkppdlaa
open Go Go.RowKit Go.Sort Go.Lib
attribute [local go_sem ↓] run_size24 run_size49 run_size25
attribute [local simp high] run_size24x run_size49x run_size25x

def maxB (d f : Bd) : Bd := if 0 < cmpB d f then d else f
def minB (u e : Bd) : Bd := if cmpB u e ≤ 0 then u else e
def pieceS (f t : Bd) : List Sp := if cmpB f t < 0 then [madeS f t] else []
def bothF : List Sp → List Sp → List Sp
  | [], _ => []
  | _ :: _, [] => []
  | x :: a, y :: b =>
    if cmpB (toB x) (toB y) ≤ 0 then pieceS (maxB (fromB y) (fromB x)) (minB (toB x) (toB y)) ++ bothF a (y :: b)
    else pieceS (maxB (fromB y) (fromB x)) (minB (toB x) (toB y)) ++ bothF (x :: a) b
termination_by a b => a.length + b.length
theorem bothF_nil (b : List Sp) : bothF [] b = [] := by rw [bothF]
theorem bothF_nil2 (a : List Sp) : bothF a [] = [] := by cases a <;> rw [bothF]
theorem bothF_le {x y : Sp} {a b : List Sp} (h : cmpB (toB x) (toB y) ≤ 0) : bothF (x :: a) (y :: b) = pieceS (maxB (fromB y) (fromB x)) (minB (toB x) (toB y)) ++ bothF a (y :: b) := by rw [bothF, if_pos h]
theorem bothF_gt {x y : Sp} {a b : List Sp} (h : ¬ cmpB (toB x) (toB y) ≤ 0) : bothF (x :: a) (y :: b) = pieceS (maxB (fromB y) (fromB x)) (minB (toB x) (toB y)) ++ bothF (x :: a) b := by rw [bothF, if_neg h]
theorem pieceS_length (f t : Bd) : (pieceS f t).length ≤ 1 := by unfold pieceS; split <;> simp
theorem bothF_length : ∀ (n : Nat) (a b : List Sp), a.length + b.length ≤ n → (bothF a b).length ≤ n := by
  intro n
  induction n with
  | zero => intro a b h; have : a = [] := List.eq_nil_of_length_eq_zero (by omega); subst this; rw [bothF_nil]; simp
  | succ n ih =>
    intro a b h
    cases a with
    | nil => rw [bothF_nil]; simp
    | cons x a =>
      cases b with
      | nil => rw [bothF_nil2]; simp
      | cons y b =>
        have := pieceS_length (maxB (fromB y) (fromB x)) (minB (toB x) (toB y))
        simp only [List.length_cons] at h
        by_cases hc : cmpB (toB x) (toB y) ≤ 0
        · rw [bothF_le hc, List.length_append]
          have := ih a (y :: b) (by simp only [List.length_cons]; omega)
          omega
        · rw [bothF_gt hc, List.length_append]
          have := ih (x :: a) b (by simp only [List.length_cons]; omega)
          omega

theorem SpansIn.tail {w : World} {v : Value} {x : Sp} {xs : List Sp} (h : SpansIn w v (x :: xs)) :
    ∃ v', (∀ W, (Instr.sliceAt 22 v (some (.int .i64 1)) none none).run Try.prog W = .ok v' W) ∧ SpansIn w v' xs := by
  obtain ⟨a, c, rfl, hc, hr, hn⟩ := h
  obtain ⟨b, o, rfl, hr2⟩ := hr (by simp)
  simp only [List.length_cons] at hc
  by_cases h1 : c = 1
  · subst h1
    have e0 : xs = [] := List.eq_nil_of_length_eq_zero (by omega)
    subst e0
    refine ⟨.slice (some ⟨b, o, none⟩) 0 0, fun W => ?_, ⟨some ⟨b, o, none⟩, 0, rfl, Nat.le_refl _, fun h => absurd h (by simp), fun h => by cases h⟩⟩
    simp [Instr.sliceAt, run_underlying Try.underlying22, Instr.slice, Instr.sliceBounds, Instr.sliceBound, asIntOf, Try.sizeOf28, Addr.add]
  · refine ⟨.slice (some ⟨b, o + 49, none⟩) xs.length (c - 1), fun W => ?_, ⟨some ⟨b, o + 49, none⟩, c - 1, rfl, by omega, fun _ => ⟨b, o + 49, rfl, ?_⟩, fun h => by cases h⟩⟩
    · have := cut_from 22 28 Try.underlying22 49 Try.sizeOf28 b o (xs.length + 1) c 1 (by omega) (by omega) (by omega) W
      simpa using this
    · have := RowAt.drop (enc := spanCells) (k := 49) hr2 1
      simpa using this
theorem SpansIn.head {w : World} {v : Value} {x : Sp} {xs : List Sp} (h : SpansIn w v (x :: xs)) :
    ∃ b o c, v = .slice (some ⟨b, o, none⟩) (xs.length + 1) c ∧ CellsAt w b o (spanCells x) := by
  obtain ⟨a, c, rfl, hc, hr, hn⟩ := h
  obtain ⟨b, o, rfl, hr2⟩ := hr (by simp)
  refine ⟨b, o, c, rfl, ?_⟩
  have := hr2 0 (by simp)
  simpa using this
theorem SpansIn.length {w : World} {v : Value} {xs : List Sp} (h : SpansIn w v xs) : ∃ a c, v = .slice a xs.length c := by
  obtain ⟨a, c, e, _⟩ := h; exact ⟨a, c, e⟩
end Go.Proofs.Ytfeomnkgkppdlaa
