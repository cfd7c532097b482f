/- Keys and spans that the text builds: what a build of an array, of a struct, of a slice of one element comes to. -/
import Derived.Test.YtfeomnkgkppdlaaBytes
import Derived.Test.YtfeomnkgkppdlaaOwn
set_option linter.unusedVariables false
set_option linter.unusedSimpArgs false
namespace Go.Proofs.Ytfeomnkgkppdlaa
open Go Go.RowKit Go.Sort Go.Lib

theorem fold_seg (vs : List Value) : ∀ (A B C : List Value) (off i : Nat), off + i = A.length → B.length = vs.length →
    (vs.zipIdx i).foldl (fun (cs : Array Value) (p : Value × Nat) => cs.setIfInBounds (off + p.2) p.1) (A ++ B ++ C).toArray = (A ++ vs ++ C).toArray := by
  induction vs with
  | nil => intro A B C off i h hb; have := List.eq_nil_of_length_eq_zero hb; subst this; simp
  | cons v r ih =>
    intro A B C off i h hb
    cases B with
    | nil => simp at hb
    | cons b B =>
      simp only [List.zipIdx_cons, List.foldl_cons]
      have e : (A ++ (b :: B) ++ C).toArray.setIfInBounds (off + i) v = ((A ++ [v]) ++ B ++ C).toArray := by
        rw [List.setIfInBounds_toArray]
        congr 1
        rw [List.append_assoc, List.set_append_right _ _ (by omega), show off + i - A.length = 0 by omega]
        simp
      rw [e, ih (A ++ [v]) B C off (i + 1) (by simp; omega) (by simpa using hb)]
      simp

/-- one part of many cells, laid into the cells -/
theorem fill_part (place : Nat → Option (Nat × Nat)) (A B C vs : List Value) (i : Nat) (rest : List (Nat × Value)) (hp : place i = some (A.length, vs.length)) (hb : B.length = vs.length) :
    Instr.fill place (A ++ B ++ C).toArray ((i, .agg vs.toArray) :: rest) = Instr.fill place (A ++ vs ++ C).toArray rest := by
  have e := fold_seg vs A B C A.length 0 (by simp) hb
  have hsz : ¬ (A.length + vs.length > (A ++ B ++ C).length) := by simp; omega
  rw [Instr.fill, hp]
  simp only [Value.cells, List.size_toArray, ne_eq, not_true_eq_false, decide_false, Bool.false_or]
  rw [if_neg (by simpa using hsz)]
  congr 1
  rw [← e]
  rw [← Array.foldl_toList, Array.toList_zipIdx]
theorem fill_cell (place : Nat → Option (Nat × Nat)) (A C : List Value) (b v : Value) (i : Nat) (rest : List (Nat × Value)) (hp : place i = some (A.length, 1)) (hv : v.cells = #[v]) :
    Instr.fill place (A ++ b :: C).toArray ((i, v) :: rest) = Instr.fill place (A ++ v :: C).toArray rest := by
  rw [Instr.fill, hp, hv]
  simp

def zeroKey : Key := Vector.replicate 24 0
def zeroSp : Sp := ⟨zeroKey, zeroKey, false⟩
theorem zero_span (w : World) : (zeroValue 28).run Try.prog w = .ok (.agg (spanCells zeroSp).toArray) w := Try.zeroValue28 w
def spanPlaces : Array (Nat × Nat) := #[(0, 24), (24, 24), (48, 1)]
theorem run_build_span (parts : Array (Nat × Value)) (c : Array Value) (w : World) (h : Instr.fill (spanPlaces[·]?) (spanCells zeroSp).toArray parts.toList = some c) :
    (Instr.build 28 parts).run Try.prog w = .ok (.agg c) w := by
  have hm : ∀ w, Sem.run Try.prog ((#[{ name := "From", type := 26, offset := 0, embedded := false, tag := "", pkgPath := "", byteOffset := 0 }, { name := "To", type := 26, offset := 24, embedded := false, tag := "", pkgPath := "", byteOffset := 24 }, { name := "End", type := 4, offset := 48, embedded := false, tag := "", pkgPath := "", byteOffset := 48 }] : Array Field).mapM fun f => do pure (f.offset, ← sizeOf f.type)) w = .ok spanPlaces w := fun w => by kernel_rfl
  unfold Instr.build
  simp only [Sem.run_bind, zero_span, Result.andThen, Value.cells, run_underlying Try.underlying28]
  rw [hm]
  simp only [Result.andThen]
  rw [h]
  rfl

/-- the cells of a span, by its parts -/
theorem fill_fr (a f t : Key) (e : Bool) (rest : List (Nat × Value)) : Instr.fill (spanPlaces[·]?) (spanCells ⟨f, t, e⟩).toArray ((0, keyV a) :: rest) = Instr.fill (spanPlaces[·]?) (spanCells ⟨a, t, e⟩).toArray rest := by
  have h := fill_part (spanPlaces[·]?) [] (keyCells f) (keyCells t ++ [.bool e]) (keyCells a) 0 rest (by rw [keyCells_length]; rfl) (by rw [keyCells_length, keyCells_length])
  simpa [spanCells, keyV] using h
theorem fill_to (a f t : Key) (e : Bool) (rest : List (Nat × Value)) : Instr.fill (spanPlaces[·]?) (spanCells ⟨f, t, e⟩).toArray ((1, keyV a) :: rest) = Instr.fill (spanPlaces[·]?) (spanCells ⟨f, a, e⟩).toArray rest := by
  have h := fill_part (spanPlaces[·]?) (keyCells f) (keyCells t) [.bool e] (keyCells a) 1 rest (by rw [keyCells_length, keyCells_length]; rfl) (by rw [keyCells_length, keyCells_length])
  simpa [spanCells, keyV] using h
theorem fill_en (f t : Key) (e b : Bool) (rest : List (Nat × Value)) : Instr.fill (spanPlaces[·]?) (spanCells ⟨f, t, e⟩).toArray ((2, .bool b) :: rest) = Instr.fill (spanPlaces[·]?) (spanCells ⟨f, t, b⟩).toArray rest := by
  have h := fill_cell (spanPlaces[·]?) (keyCells f ++ keyCells t) [] (.bool e) (.bool b) 2 rest (by rw [List.length_append, keyCells_length, keyCells_length]; rfl) rfl
  simpa [spanCells] using h
theorem build_fr_en (a : Key) (b : Bool) (w : World) : (Instr.build 28 #[(0, keyV a), (2, .bool b)]).run Try.prog w = .ok (spanV ⟨a, zeroKey, b⟩) w :=
  run_build_span _ _ w (by show Instr.fill _ _ [_, _] = _; unfold zeroSp; rw [fill_fr, fill_en]; rfl)
theorem build_to (a : Key) (w : World) : (Instr.build 28 #[(1, keyV a)]).run Try.prog w = .ok (spanV ⟨zeroKey, a, false⟩) w :=
  run_build_span _ _ w (by show Instr.fill _ _ [_] = _; unfold zeroSp; rw [fill_to]; rfl)
theorem build_en (b : Bool) (w : World) : (Instr.build 28 #[(2, .bool b)]).run Try.prog w = .ok (spanV ⟨zeroKey, zeroKey, b⟩) w :=
  run_build_span _ _ w (by show Instr.fill _ _ [_] = _; unfold zeroSp; rw [fill_en]; rfl)
theorem build_fr_to (a b : Key) (w : World) : (Instr.build 28 #[(0, keyV a), (1, keyV b)]).run Try.prog w = .ok (spanV ⟨a, b, false⟩) w :=
  run_build_span _ _ w (by show Instr.fill _ _ [_, _] = _; unfold zeroSp; rw [fill_fr, fill_to]; rfl)

/-- a slice of one element -/
theorem build_spans1 (s : Sp) (w : World) : (Instr.buildSlice 22 1 #[(0, spanV s)]).run Try.prog w = .ok (.slice (some ⟨w.heap.size, 0, none⟩) 1 1) (w.alloc (.cells (spanCells s).toArray 28)) := by
  have h := fill_part (fun i => some (i * 49, 49)) [] (spanCells zeroSp) [] (spanCells s) 0 [] (by rw [spanCells_length]; rfl) (by rw [spanCells_length, spanCells_length])
  simp only [List.nil_append, List.append_nil] at h
  have hz : ((Array.range (1 * 49)).map ((spanCells zeroSp).toArray[· % (spanCells zeroSp).toArray.size]!)) = (spanCells zeroSp).toArray := by kernel_rfl
  unfold Instr.buildSlice
  simp only [Sem.run_bind, run_underlying Try.underlying22, Try.sizeOf28, Result.andThen]
  rw [if_neg (by decide)]
  rw [if_neg (by decide)]
  simp only [Sem.run_bind, Sem.run_pure, Result.andThen, zero_span, Value.cells]
  rw [hz]
  rw [show Instr.fill (fun i => some (i * 49, 49)) (spanCells zeroSp).toArray [(0, spanV s)] = some (spanCells s).toArray from h]
  rfl
theorem zero_key (w : World) : (zeroValue 26).run Try.prog w = .ok (.agg (keyCells zeroKey).toArray) w := Try.zeroValue26 w
theorem build_keys1 (k : Key) (w : World) : (Instr.buildSlice 36 1 #[(0, keyV k)]).run Try.prog w = .ok (.slice (some ⟨w.heap.size, 0, none⟩) 1 1) (w.alloc (.cells (keyCells k).toArray 26)) := by
  have h := fill_part (fun i => some (i * 24, 24)) [] (keyCells zeroKey) [] (keyCells k) 0 [] (by rw [keyCells_length]; rfl) (by rw [keyCells_length, keyCells_length])
  simp only [List.nil_append, List.append_nil] at h
  have hz : ((Array.range (1 * 24)).map ((keyCells zeroKey).toArray[· % (keyCells zeroKey).toArray.size]!)) = (keyCells zeroKey).toArray := by kernel_rfl
  unfold Instr.buildSlice
  simp only [Sem.run_bind, run_underlying Try.underlying36, Try.sizeOf26, Result.andThen]
  rw [if_neg (by decide)]
  rw [if_neg (by decide)]
  simp only [Sem.run_bind, Sem.run_pure, Result.andThen, zero_key, Value.cells]
  rw [hz]
  rw [show Instr.fill (fun i => some (i * 24, 24)) (keyCells zeroKey).toArray [(0, keyV k)] = some (keyCells k).toArray from h]
  rfl

/- the same behind names, so that the walk meets them whole -/
def bFrEn (a : Key) (b : Bool) : Sem Value := Instr.build 28 #[(0, keyV a), (2, .bool b)]
def bTo (a : Key) : Sem Value := Instr.build 28 #[(1, keyV a)]
def bEn (b : Bool) : Sem Value := Instr.build 28 #[(2, .bool b)]
def bFrTo (a b : Key) : Sem Value := Instr.build 28 #[(0, keyV a), (1, keyV b)]
def bSpans1 (s : Sp) : Sem Value := Instr.buildSlice 22 1 #[(0, spanV s)]
def bKeys1 (k : Key) : Sem Value := Instr.buildSlice 36 1 #[(0, keyV k)]
/- a build's parts are evaluated behind a name: by then the parts are written out -/
def bld1 (t : Nat) (p : Nat × Value) : Sem Value := Instr.build t #[p]
def bld2 (t : Nat) (p q : Nat × Value) : Sem Value := Instr.build t #[p, q]
def bls1 (t : Nat) (p : Nat × Value) : Sem Value := Instr.buildSlice t 1 #[p]
theorem to_span1 (f : Nat × Operand → Nat × Value) (p : Nat × Operand) : Instr.build 28 (Array.map f #[p]) = bld1 28 (f p) := by simp [bld1]
theorem to_span2 (f : Nat × Operand → Nat × Value) (p q : Nat × Operand) : Instr.build 28 (Array.map f #[p, q]) = bld2 28 (f p) (f q) := by simp [bld2]
theorem to_key1 (f : Nat × Operand → Nat × Value) (p : Nat × Operand) : Instr.build 26 (Array.map f #[p]) = bld1 26 (f p) := by simp [bld1]
theorem to_spans1 (f : Nat × Operand → Nat × Value) (p : Nat × Operand) : Instr.buildSlice 22 1 (Array.map f #[p]) = bls1 22 (f p) := by simp [bls1]
theorem to_keys1 (f : Nat × Operand → Nat × Value) (p : Nat × Operand) : Instr.buildSlice 36 1 (Array.map f #[p]) = bls1 36 (f p) := by simp [bls1]
theorem is_bFrEn (a : Key) (b : Bool) : bld2 28 (0, .agg (keyCells a).toArray) (2, .bool b) = bFrEn a b := rfl
theorem is_bTo (a : Key) : bld1 28 (1, .agg (keyCells a).toArray) = bTo a := rfl
theorem is_bEn (b : Bool) : bld1 28 (2, .bool b) = bEn b := rfl
theorem is_bFrTo (a b : Key) : bld2 28 (0, .agg (keyCells a).toArray) (1, .agg (keyCells b).toArray) = bFrTo a b := rfl
theorem is_bSpans1 (s : Sp) : bls1 22 (0, .agg (spanCells s).toArray) = bSpans1 s := rfl
theorem is_bKeys1 (k : Key) : bls1 36 (0, .agg (keyCells k).toArray) = bKeys1 k := rfl
theorem run_bFrEn (a : Key) (b : Bool) (w : World) : Sem.run Try.prog (bFrEn a b) w = .ok (.agg (spanCells ⟨a, zeroKey, b⟩).toArray) w := build_fr_en a b w
theorem run_bTo (a : Key) (w : World) : Sem.run Try.prog (bTo a) w = .ok (.agg (spanCells ⟨zeroKey, a, false⟩).toArray) w := build_to a w
theorem run_bEn (b : Bool) (w : World) : Sem.run Try.prog (bEn b) w = .ok (.agg (spanCells ⟨zeroKey, zeroKey, b⟩).toArray) w := build_en b w
theorem run_bFrTo (a b : Key) (w : World) : Sem.run Try.prog (bFrTo a b) w = .ok (.agg (spanCells ⟨a, b, false⟩).toArray) w := build_fr_to a b w
theorem run_bSpans1 (s : Sp) (w : World) : Sem.run Try.prog (bSpans1 s) w = .ok (.slice (some ⟨w.heap.size, 0, none⟩) 1 1) (w.alloc (.cells (spanCells s).toArray 28)) := build_spans1 s w
theorem run_bKeys1 (k : Key) (w : World) : Sem.run Try.prog (bKeys1 k) w = .ok (.slice (some ⟨w.heap.size, 0, none⟩) 1 1) (w.alloc (.cells (keyCells k).toArray 26)) := build_keys1 k w
end Go.Proofs.Ytfeomnkgkppdlaa
