/- What SpanClean's walk needs: clean rows place by place; a key made of nothing, two keys compared; a row of twins. -/
import Derived.Test.YtfeomnkgkppdlaaSpShown
import Derived.Test.YtfeomnkgkppdlaaSpJoin
import Derived.Test.YtfeomnkgkppdlaaSpRef
import Derived.Deep.AppendLies
set_option linter.unusedVariables false
set_option linter.unusedSimpArgs false
namespace Go.Proofs.Ytfeomnkgkppdlaa
open Go Go.RowKit Go.Sort Go.Lib

theorem Cl.at : ∀ {L : List (Nat × Nat)} {lo : Nat}, Cl lo L → ∀ i (h : i < L.length), L[i].1 < L[i].2
  | [], _, _, _, h => absurd h (by simp)
  | p :: r, _, hc, 0, _ => hc.2.1
  | p :: r, _, hc, i + 1, h => by
    have := Cl.at hc.2.2 i (by simpa using h)
    simpa using this
theorem Cl.next : ∀ {L : List (Nat × Nat)} {lo : Nat}, Cl lo L → ∀ i (h : i + 1 < L.length), (L[i]'(by omega)).2 + 1 ≤ L[i + 1].1
  | [], _, _, _, h => absurd h (by simp)
  | [p], _, _, _, h => absurd h (by simp)
  | p :: q :: r, _, hc, 0, _ => hc.2.2.1
  | p :: q :: r, _, hc, i + 1, h => by
    have := Cl.next hc.2.2 i (by simpa using h)
    simpa using this
theorem clean_at {c : List Sp} (h : Cl 0 (NL c)) (i : Nat) (hi : i < c.length) : (sN c[i]).1 < (sN c[i]).2 := by
  have := h.at i (by simpa [NL] using hi)
  simpa [NL] using this
theorem clean_next {c : List Sp} (h : Cl 0 (NL c)) (i : Nat) (hi : i + 1 < c.length) : (sN (c[i]'(by omega))).2 + 1 ≤ (sN c[i + 1]).1 := by
  have := h.next i (by simpa [NL] using hi)
  simpa [NL] using this
theorem sN_from (s : Sp) : (sN s).1 = nK s.fr := rfl
theorem sN_to {s : Sp} (h : s.en = false) : (sN s).2 = nK s.to := by simp [sN, toB, h, nB]
theorem sN_end {s : Sp} (h : s.en = true) : (sN s).2 = 256 ^ 24 := by simp [sN, toB, h, nB]
theorem ltK_of {a b : Key} (h : nK a < nK b) : ltK a b = true := by rw [← cmpK_lt, cmpN_lt]; exact h
theorem clean_last {c : List Sp} (h : Cl 0 (NL c)) (i : Nat) (hi : i < c.length) (he : c[i].en = true) : i + 1 = c.length := by
  rcases Nat.lt_or_ge (i + 1) c.length with h1 | h1
  · have h2 := clean_next h i h1
    rw [sN_end he, sN_from] at h2
    have := nK_lt c[i + 1].fr
    omega
  · omega
theorem clean_less {c : List Sp} (h : Cl 0 (NL c)) (i : Nat) (hi : i < c.length) (he : c[i].en = false) : ltK c[i].fr c[i].to = true := by
  have h2 := clean_at h i hi
  rw [sN_to he, sN_from] at h2
  exact ltK_of h2
theorem clean_gap {c : List Sp} (h : Cl 0 (NL c)) (i : Nat) (hi : i + 1 < c.length) : ltK (c[i]'(by omega)).to c[i + 1].fr = true := by
  have h2 := clean_next h i hi
  have he : (c[i]'(by omega)).en = false := by
    cases hb : (c[i]'(by omega)).en with
    | false => rfl
    | true => have := clean_last h i (by omega) hb; omega
  rw [sN_to he, sN_from] at h2
  exact ltK_of (by omega)

def bKey0 : Sem Value := Instr.build 26 #[]
theorem to_key0 (f : Nat × Operand → Nat × Value) : Instr.build 26 (Array.map f #[]) = bKey0 := by simp [bKey0]
theorem run_bKey0 (w : World) : bKey0.run Try.prog w = .ok (.agg (keyCells zeroKey).toArray) w := by kernel_rfl
theorem run_eq_key (a b : Key) (w : World) : (Op.equalIn 10000 26 (.agg (keyCells a).toArray) (.agg (keyCells b).toArray)).run Try.prog w = .ok (decide (a = b)) w := by
  have hf : ∀ s, (Value.agg (keyCells s).toArray).formed Try.prog 26 = true := fun s => by
    unfold Value.formed
    rw [Try.underlying26]
    simp only [List.size_toArray, keyCells_length, cellsKey]
    rfl
  obtain ⟨r, hr, hi⟩ := run_equalIn_deep (P := Try.prog) 9997 3 26 (by kernel_rfl) w 3 3 (.agg (keyCells a).toArray) (.agg (keyCells b).toArray) (a.toList.map byteL) (b.toList.map byteL) (hf a) (hf b) (by simpa [Value.cells] using lits_key 1 a) (by simpa [Value.cells] using lits_key 1 b)
  rw [hr]
  congr 1
  rw [Bool.eq_iff_iff, hi, decide_eq_true_iff]
  exact ⟨litsK_inj, fun h => by rw [h]⟩

/-- w' is w but for what the call has laid from B on -/
def Beyond (B : Nat) (a b : World) : Prop := Chg (fun i => B ≤ i) a b
theorem Beyond.step {B : Nat} {a b c : World} (h : Beyond B a b) (k : Beyond B b c) : Beyond B a c := Chg.trans h k (fun _ _ h => h)
theorem news_at {w : World} {b : Nat} {vs : List Value} (h : CellsAt w b 0 vs) : ∀ j u, vs[j]? = some u → w.cell? ((⟨b, 0, none⟩ : Addr).add j) = some u := fun j u hj => by
  rw [Addr.add_lit]; exact h j u hj
theorem flat_two (x : Sp) : flat spanCells [x, x] = spanCells x ++ spanCells x := by simp [flat]
theorem mem_twins (xs outs : List Sp) (j : Nat) (hj : j < xs.length) (h : ∀ n, mem n (NL outs) ↔ mem n (NL (xs.drop (j + 1)))) : ∀ n, mem n (NL (outs ++ [xs[j], xs[j]])) ↔ mem n (NL (xs.drop j)) := fun n => by
  rw [NL_append, mem_append, h n, List.drop_eq_getElem_cons hj]
  simp only [NL, List.map_cons, List.map_nil, mem_cons]
  have := mem_nil n
  constructor
  · rintro (h | h | h | h)
    · exact .inr h
    · exact .inl h
    · exact .inl h
    · exact (this h).elim
  · rintro (h | h)
    · exact .inr (.inl h)
    · exact .inl h
end Go.Proofs.Ytfeomnkgkppdlaa
