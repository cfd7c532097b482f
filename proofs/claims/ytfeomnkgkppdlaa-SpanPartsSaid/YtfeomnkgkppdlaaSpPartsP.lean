/- SpanParts, as it is stated: whatever the input, the statement's Go function returns true, and leaves what it was given as it was. Conditions: none but those that the given statement holds itself. -/
import Derived.Test.YtfeomnkgkppdlaaRows
import Derived.Test.YtfeomnkgkppdlaaSpPartsW
import Derived.Test.YtfeomnkgkppdlaaSpArgs
import Derived.ProofKit
import Derived.OpenShut
set_option linter.unusedVariables false
set_option linter.unusedSimpArgs false
namespace Go.Proofs.Ytfeomnkgkppdlaa
open Go Go.RowKit Go.Sort Go.Lib Go.ChangeShapes Go.WideShapes Go.ChangeAt Go.Deep

set_option maxRecDepth 100000 in
theorem spanParts_lifted (os : Os) (started : os.Started) (H : Type) (enc : TypeId × Value → H) :
    ReturnsInHanded {} Try.checked os 4 .any (Rows.spanPartsSpec.pre6 enc Try.prog Try.f4 Rows.spanPartsRow.domain false) (Rows.spanPartsSpec.post enc Try.prog Try.f4 false true false false) := by
  refine returnsInHanded_of_change (C := Try.checked) ownK started (by kernel_rfl) Try.func4
    (ChangeSpec.witness6 (enc := enc) (C := Try.checked) false ⟨#[], #[.slice none 0 0, .slice none 0 0], []⟩ 8 (by kernel_rfl) (by kernel_rfl) (by kernel_rfl) (by kernel_rfl)) ?_
  intro W base args ds gs before hval0 hW hcnd _
  have hval : ∀ (j : Nat) t v, Try.f4.params[j]? = some t → args[j]? = some v → Value.okWide Try.prog W .any base t v := hval0
  have hW' := hW
  obtain ⟨p, q, hA0, hV, rfl, hfz, hnd⟩ := hW
  have hA : DataW.TrodAll enc Try.prog W 0 (fun _ => true) true Try.f4.params.toList args.toList ds p := hA0
  rw [Try.params4] at hA hval
  obtain ⟨v0, vs0, d0, ds0, p0, q0, hargs, rfl, rfl, h0, r0⟩ := trodAll_cons hA
  obtain ⟨v1, vs1, d1, ds1, p1, q1, rfl, rfl, rfl, h1, r1⟩ := trodAll_cons r0
  obtain ⟨rfl, rfl, rfl⟩ := trodAll_nil r1
  obtain rfl : args = #[v0, v1] := by cases args; simp_all
  obtain ⟨rfl, rfl⟩ := trodVars_none hV
  have lt : ∀ {t v d ps}, DataW.Trod enc Try.prog W 0 (fun _ => true) true t v d ps → ∀ x ∈ ps, x.block < W.heap.size := fun ⟨m, hm⟩ => DataW.trod_lt m _ _ _ hm
  obtain ⟨ss0, S0⟩ := spans_arg (hval 0 22 v0 rfl rfl) h0
  obtain ⟨ss1, S1⟩ := spans_arg (hval 1 22 v1 rfl rfl) h1
  clear hA0 hval0
  refine (parts_any v0 v1 ss0 ss1 W S0 S1).mono fun e W' ⟨he, ch⟩ => ?_
  subst he
  have bel : Below W.heap.size W W' := ch.below (Nat.le_refl _) (fun _ _ h => h.elim)
  have bt : ∀ {v d ps} (t : TypeId) (h1 : Try.prog.readableRec t = true) (h2 : t < Try.prog.types.size), DataW.Trod enc Try.prog W 0 (fun _ => true) true t v d ps → DataW.Trod enc Try.prog W' 0 (fun b => decide (b < W.heap.size)) true t v d ps :=
    fun t h1 h2 h => Below.trod laidOut h1 h2 h bel (lt h)
  exact ⟨_, rfl, _, _, _, [], _, [], hW', trodAll_mk1 (shut_bool Try.underlying4 _),
    trodAll_cons_mk (bt 22 (by kernel_rfl) (of_decide_eq_true (by kernel_rfl)) h0) (trodAll_cons_mk (bt 22 (by kernel_rfl) (of_decide_eq_true (by kernel_rfl)) h1) trodAll_mk0),
    rfl, bel.frame _, fun h => by cases h⟩

theorem spanParts_holds : Rows.SpanPartsSaid :=
  OpenClaim.holds_of_wide 4 Try.f4 rfl rfl rfl rfl rfl rfl rfl ⟨rfl, rfl, rfl, rfl, rfl⟩ rfl rfl rfl rfl rfl (by kernel_rfl) Try.func4 (by kernel_rfl)
    (of_decide_eq_true (by kernel_rfl)) (by unfold Func.isWrapper; first | (rw [if_pos (by decide +kernel)]; kernel_rfl) | (rw [if_neg (by decide +kernel)]; exact ⟨rfl, rfl⟩))
    (fun os started H enc _ => spanParts_lifted os started H enc)
end Go.Proofs.Ytfeomnkgkppdlaa
