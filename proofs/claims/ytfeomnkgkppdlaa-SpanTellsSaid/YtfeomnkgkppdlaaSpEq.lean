/- Two spans compared by '==' and '!='. -/
import Derived.Test.YtfeomnkgkppdlaaSpLess
import Derived.Test.YtfeomnkgkppdlaaOpen
import Derived.DeepKeys
set_option linter.unusedVariables false
set_option linter.unusedSimpArgs false
namespace Go.Proofs.Ytfeomnkgkppdlaa
open Go Go.RowKit Go.Sort Go.Lib

def byteL (b : UInt8) : Lit := .int .u8 (b.toNat : Int)
theorem lits_byte (d : Nat) (b : UInt8) : Try.prog.keyLits (d + 1) 5 [byteV b] = some [byteL b] := by
  have hw : (Lit.int .u8 (b.toNat : Int)).wf = true := by
    have := b.toNat_lt
    simp [Lit.wf, IntKind.min, IntKind.max, IntKind.signed, IntKind.bits]
    omega
  unfold Program.keyLits
  rw [Try.underlying5]
  simp only [byteV]
  rw [if_pos ⟨trivial, hw⟩]
  rfl
theorem mapM_some {α β : Type} (f : α → Option β) (g : α → β) : ∀ (l : List α), (∀ x ∈ l, f x = some (g x)) → l.mapM f = some (l.map g)
  | [], _ => by simp
  | a :: r, h => by
    rw [List.mapM_cons, h a (by simp), mapM_some f g r (fun x hx => h x (by simp [hx]))]
    rfl
theorem flat1 {α β : Type} (f : α → β) : ∀ l : List α, (l.map fun i => [f i]).flatten = l.map f
  | [] => rfl
  | a :: r => by simp only [List.map_cons, List.flatten_cons, flat1 f r]; rfl
theorem lits_key (d : Nat) (k : Key) : Try.prog.keyLits (d + 2) 26 (keyCells k) = some (k.toList.map byteL) := by
  unfold Program.keyLits
  rw [Try.underlying26]
  simp only [cells5]
  rw [if_pos (by rw [keyCells_length]; exact cellsKey.symm)]
  rw [mapM_some _ (fun i => [byteL (k.toList.getD i 0)]) _ (fun i hi => by
    have hi' : i < 24 := by simpa using hi
    have e : ((keyCells k).drop (i * 1)).take 1 = [byteV (k.toList.getD i 0)] := by
      rw [Nat.mul_one, List.drop_eq_getElem_cons (by rw [keyCells_length]; exact hi')]
      simp [keyCells, hi']
    rw [e]
    exact lits_byte d _)]
  simp only [Option.map_some]
  congr 1
  apply List.ext_getElem?
  intro i
  have : ((List.range 24).map fun i => [byteL (k.toList.getD i 0)]).flatten = (List.range 24).map fun i => byteL (k.toList.getD i 0) := by
    exact flat1 _ _
  rw [this]
  by_cases hi : i < 24
  · simp [hi]
  · rw [List.getElem?_eq_none (by simp; omega), List.getElem?_eq_none (by simp; omega)]
theorem byteL_inj {a b : UInt8} (h : byteL a = byteL b) : a = b := by
  simp only [byteL, Lit.int.injEq, true_and] at h
  exact UInt8.toNat_inj.1 (by omega)
theorem litsK_inj {a b : Key} (h : a.toList.map byteL = b.toList.map byteL) : a = b := by
  have := (List.map_inj_right (fun _ _ h => byteL_inj h)).1 h
  exact Vector.toList_inj.1 this
theorem lits_bool (d : Nat) (b : Bool) : Try.prog.keyLits (d + 1) 4 [.bool b] = some [.bool b] := by
  unfold Program.keyLits
  rw [Try.underlying4]
def litsS (s : Sp) : List Lit := s.fr.toList.map byteL ++ (s.to.toList.map byteL ++ [.bool s.en])
theorem lits_span (s : Sp) : Try.prog.keyLits 3 28 (spanCells s) = some (litsS s) := by
  have e0 : ((spanCells s).drop 0).take 24 = keyCells s.fr := by
    unfold spanCells; rw [List.drop_zero, List.append_assoc, List.take_append_of_le_length (by rw [keyCells_length]; omega), List.take_of_length_le (by rw [keyCells_length]; omega)]
  have e1 : ((spanCells s).drop 24).take 24 = keyCells s.to := by
    unfold spanCells; rw [List.append_assoc, List.drop_left' (keyCells_length _), List.take_append_of_le_length (by rw [keyCells_length]; omega), List.take_of_length_le (by rw [keyCells_length]; omega)]
  have e2 : ((spanCells s).drop 48).take 1 = [.bool s.en] := by
    unfold spanCells; rw [List.drop_left' (by rw [List.length_append, keyCells_length, keyCells_length])]; rfl
  unfold Program.keyLits
  rw [Try.underlying28]
  simp only
  rw [if_pos ⟨by rw [spanCells_length]; exact cellsSpan.symm, by kernel_rfl⟩]
  simp only [List.mapM_cons, List.mapM_nil, cellsKey, cellsB, e0, e1, e2, lits_key 0, lits_bool 1, Option.pure_def, Option.bind_eq_bind, Option.bind_some, Option.map_some]
  rfl
theorem litsS_inj {a b : Sp} (h : litsS a = litsS b) : a = b := by
  unfold litsS at h
  have h1 := List.append_inj h (by simp)
  have h2 := List.append_inj h1.2 (by simp)
  obtain ⟨f, t, e⟩ := a
  obtain ⟨f', t', e'⟩ := b
  have e1 := litsK_inj h1.1
  have e2 := litsK_inj h2.1
  have e3 := h2.2
  simp only [List.cons.injEq, Lit.bool.injEq, and_true] at e3
  simp only at e1 e2
  rw [e1, e2, e3]
instance : DecidableEq Sp := fun a b => decidable_of_iff (a.fr = b.fr ∧ a.to = b.to ∧ a.en = b.en) ⟨fun ⟨h1, h2, h3⟩ => by cases a; cases b; simp_all, fun h => by rw [h]; exact ⟨rfl, rfl, rfl⟩⟩
theorem run_eq_span (a b : Sp) (w : World) : (Op.equalIn 10000 28 (.agg (spanCells a).toArray) (.agg (spanCells b).toArray)).run Try.prog w = .ok (decide (a = b)) w := by
  have hf : ∀ s, (Value.agg (spanCells s).toArray).formed Try.prog 28 = true := fun s => by
    unfold Value.formed
    rw [Try.underlying28]
    simp only [List.size_toArray, spanCells_length, cellsSpan]
    rfl
  obtain ⟨r, hr, hi⟩ := run_equalIn_deep (P := Try.prog) 9997 3 28 (by kernel_rfl) w 3 3 (.agg (spanCells a).toArray) (.agg (spanCells b).toArray) (litsS a) (litsS b) (hf a) (hf b) (by simpa [Value.cells] using lits_span a) (by simpa [Value.cells] using lits_span b)
  rw [hr]
  congr 1
  rw [Bool.eq_iff_iff, hi, decide_eq_true_iff]
  exact ⟨litsS_inj, fun h => by rw [h]⟩
end Go.Proofs.Ytfeomnkgkppdlaa
