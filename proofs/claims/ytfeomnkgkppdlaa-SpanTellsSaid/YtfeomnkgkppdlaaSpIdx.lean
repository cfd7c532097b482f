/- slices.IndexFunc and slices.DeleteFunc at a row of spans, with the closure that tells an empty one. -/
import Derived.Test.YtfeomnkgkppdlaaSpEmpty
set_option linter.unusedVariables false
set_option linter.unusedSimpArgs false
namespace Go.Proofs.Ytfeomnkgkppdlaa
open Go Go.RowKit Go.Sort Go.Lib
attribute [local go_sem ↓] run_size24 run_size49 run_size25
attribute [local simp high] run_size24x run_size49x run_size25x

/-- the spans of a row of the call's own -/
def SpansAt (w : World) (b off : Nat) (ss : List Sp) : Prop := RowAt spanCells 49 w b off ss
theorem SpansAt.load {w : World} {b off : Nat} {ss : List Sp} (h : SpansAt w b off ss) {i : Nat} (hi : i < ss.length) : Sem.run Try.prog (loadCellsFrom ⟨b, off + i * K49, none⟩ 0 K49 #[]) w = .ok (spanCells ss[i]).toArray w :=
  (h i hi).load _ K49 (spanCells_length _)
/-- how many of the first stand before the first empty one -/
def firstEmpty (ss : List Sp) : Int := match ss.findIdx? emptyS with | some i => i | none => -1

set_option maxHeartbeats 1000000 in
theorem index_some (b off cap : Nat) (ss : List Sp) (w : World) (hs : SpansAt w b off ss) (hn : ss.length ≤ 4611686018427387904) :
    Calls Try.prog 46 #[.slice (some ⟨b, off, none⟩) ss.length cap, .func (.func 29) #[] #[]] w fun e w' => e = .returned (.int .i64 (firstEmpty ss)) ∧ Ext w w' := by
  have mixed := Try.mixed
  have k1 : ¬ K24 = 0 := by decide
  have k2 : ¬ K49 = 0 := by decide
  have HS := Lib.hid hs
  clear hs
  generalize hlen : ss.length = n at hn ⊢
  have HN := Lib.hid hlen
  clear hlen
  go_enter Try.func46, Try.ntmps46
  go_wp2
  go_loopg [8] n (fun kx s8 wr => ∃ i : Nat, s8 = .int .i64 i ∧ i ≤ n ∧ n - i ≤ kx ∧ Aside (∀ j (h : j < ss.length), j < i → emptyS ss[j] = false) ∧ Aside (Ext w wr))
  case atStart => exact ⟨0, rfl, Nat.zero_le _, by omega, fun j h hj => absurd hj (by omega), Ext.refl _⟩
  case round =>
    obtain ⟨i, rfl, hin, hg, A, X⟩ := hrel
    by_cases hlt : i < n
    · have hi : i < ss.length := by have := HN.out; omega
      obtain ⟨s, hs⟩ : ∃ s, s = ss[i] := ⟨_, rfl⟩
      have l1 : Sem.run Try.prog (loadCellsFrom ⟨b, off + i * K49, none⟩ 0 K49 #[]) wr = .ok (spanCells s).toArray wr := by
        rw [hs]; exact SpansAt.load (fun j hj => X.out.cells (HS.out j hj)) hi
      have cl := Lib.hid (empty_any s wr)
      unfold spanV at cl
      have HE := Lib.hid hs
      clear hs
      go_wp2_with fail
      refine cl.out.mono ?_
      rintro e w1 ⟨rfl, X1⟩
      have X1 := Lib.hid X1
      clear cl
      cases he : emptyS s with
      | true =>
        have R : Hid (firstEmpty ss = (i : Int)) := by
          show firstEmpty ss = _
          unfold firstEmpty
          rw [show ss.findIdx? emptyS = some i from by
            rw [List.findIdx?_eq_some_iff_getElem]
            exact ⟨hi, by rw [← HE.out]; exact he, fun j hj => by rw [A.out j (by omega) hj]; decide⟩]
        go_wp2
        go_ret
        exact ⟨retI R.out.symm, X.out.trans X1.out⟩
      | false =>
        go_wp2
        go_roundg (n - (i + 1))
        case measure => omega
        case rel =>
          refine ⟨i + 1, by go_num, by omega, Nat.le_refl _, fun j h hj => ?_, X.out.trans X1.out⟩
          by_cases e : j = i
          · subst e; rw [← HE.out]; exact he
          · exact A.out j h (by omega)
    · have R : Hid (firstEmpty ss = -1) := by
        show firstEmpty ss = _
        unfold firstEmpty
        rw [show ss.findIdx? emptyS = none from by
          rw [List.findIdx?_eq_none_iff]
          intro x hx
          obtain ⟨j, hj, rfl⟩ := List.getElem_of_mem hx
          exact A.out j hj (by have := HN.out; omega)]
      go_wp2
      go_ret
      exact ⟨retI R.out.symm, X.out⟩
end Go.Proofs.Ytfeomnkgkppdlaa
