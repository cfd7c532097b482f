/- Bounds of spans: their cells, how they are built, and the functions compare, bounds and made by their contracts. -/
import Derived.Test.YtfeomnkgkppdlaaBuild
set_option linter.unusedVariables false
set_option linter.unusedSimpArgs false
namespace Go.Proofs.Ytfeomnkgkppdlaa
open Go Go.RowKit Go.Sort Go.Lib

def K25 : Nat := 25
structure Bd where
  key : Key
  en : Bool
def bdCells (b : Bd) : List Value := keyCells b.key ++ [.bool b.en]
theorem bdCells_length (b : Bd) : (bdCells b).length = 25 := by simp [bdCells, keyCells_length]
theorem bdCells_one (s : Bd) : ∀ v ∈ bdCells s, v.oneCell' = true := by
  intro v hv
  simp only [bdCells, List.mem_append, List.mem_singleton] at hv
  rcases hv with h | h
  · exact keyCells_one _ v h
  · subst h; rfl
def bdV (b : Bd) : Value := .agg (bdCells b).toArray
theorem run_size25 (w : World) : Sem.run Try.prog (sizeOf 43) w = .ok K25 w := Try.sizeOf43 w
theorem run_size25x (w : World) : Sem.run Try.prog (sizeOf 43) w = .ok K25 w := Try.sizeOf43 w

def zeroBd : Bd := ⟨zeroKey, false⟩
theorem zero_bd (w : World) : (zeroValue 43).run Try.prog w = .ok (.agg (bdCells zeroBd).toArray) w := Try.zeroValue43 w
def bdPlaces : Array (Nat × Nat) := #[(0, 24), (24, 1)]
theorem run_build_bd (parts : Array (Nat × Value)) (c : Array Value) (w : World) (h : Instr.fill (bdPlaces[·]?) (bdCells zeroBd).toArray parts.toList = some c) :
    (Instr.build 43 parts).run Try.prog w = .ok (.agg c) w := by
  have hm : ∀ w, Sem.run Try.prog ((#[{ name := "key", type := 26, offset := 0, embedded := false, tag := "", pkgPath := "wainscot/span", byteOffset := 0 }, { name := "end", type := 4, offset := 24, embedded := false, tag := "", pkgPath := "wainscot/span", byteOffset := 24 }] : Array Field).mapM fun f => do pure (f.offset, ← sizeOf f.type)) w = .ok bdPlaces w := fun w => by kernel_rfl
  unfold Instr.build
  simp only [Sem.run_bind, zero_bd, Result.andThen, Value.cells, run_underlying Try.underlying43]
  rw [hm]
  simp only [Result.andThen]
  rw [h]
  rfl
theorem fill_bkey (a k : Key) (e : Bool) (rest : List (Nat × Value)) : Instr.fill (bdPlaces[·]?) (bdCells ⟨k, e⟩).toArray ((0, keyV a) :: rest) = Instr.fill (bdPlaces[·]?) (bdCells ⟨a, e⟩).toArray rest := by
  have h := fill_part (bdPlaces[·]?) [] (keyCells k) [.bool e] (keyCells a) 0 rest (by rw [keyCells_length]; rfl) (by rw [keyCells_length, keyCells_length])
  simpa [bdCells, keyV] using h
theorem fill_ben (k : Key) (e b : Bool) (rest : List (Nat × Value)) : Instr.fill (bdPlaces[·]?) (bdCells ⟨k, e⟩).toArray ((1, .bool b) :: rest) = Instr.fill (bdPlaces[·]?) (bdCells ⟨k, b⟩).toArray rest := by
  have h := fill_cell (bdPlaces[·]?) (keyCells k) [] (.bool e) (.bool b) 1 rest (by rw [keyCells_length]; rfl) rfl
  simpa [bdCells] using h
def bBdKey (a : Key) : Sem Value := Instr.build 43 #[(0, keyV a)]
def bBdEn (b : Bool) : Sem Value := Instr.build 43 #[(1, .bool b)]
def bBd0 : Sem Value := Instr.build 43 #[]
def bSp3 (a b : Key) (e : Bool) : Sem Value := Instr.build 28 #[(0, keyV a), (1, keyV b), (2, .bool e)]
def bld3 (t : Nat) (p q r : Nat × Value) : Sem Value := Instr.build t #[p, q, r]
theorem to_bd0 (f : Nat × Operand → Nat × Value) : Instr.build 43 (Array.map f #[]) = bBd0 := by simp [bBd0]
theorem to_bd1 (f : Nat × Operand → Nat × Value) (p : Nat × Operand) : Instr.build 43 (Array.map f #[p]) = bld1 43 (f p) := by simp [bld1]
theorem to_span3 (f : Nat × Operand → Nat × Value) (p q r : Nat × Operand) : Instr.build 28 (Array.map f #[p, q, r]) = bld3 28 (f p) (f q) (f r) := by simp [bld3]
theorem is_bBdKey (a : Key) : bld1 43 (0, .agg (keyCells a).toArray) = bBdKey a := rfl
theorem is_bBdEn (b : Bool) : bld1 43 (1, .bool b) = bBdEn b := rfl
theorem is_bSp3 (a b : Key) (e : Bool) : bld3 28 (0, .agg (keyCells a).toArray) (1, .agg (keyCells b).toArray) (2, .bool e) = bSp3 a b e := rfl
theorem run_bBdKey (a : Key) (w : World) : (bBdKey a).run Try.prog w = .ok (.agg (bdCells ⟨a, false⟩).toArray) w :=
  run_build_bd _ _ w (by show Instr.fill _ _ [_] = _; unfold zeroBd; rw [fill_bkey]; rfl)
theorem run_bBdEn (b : Bool) (w : World) : (bBdEn b).run Try.prog w = .ok (.agg (bdCells ⟨zeroKey, b⟩).toArray) w :=
  run_build_bd _ _ w (by show Instr.fill _ _ [_] = _; unfold zeroBd; rw [fill_ben]; rfl)
theorem run_bBd0 (w : World) : bBd0.run Try.prog w = .ok (.agg (bdCells zeroBd).toArray) w :=
  run_build_bd _ _ w (by rfl)
theorem run_bSp3 (a b : Key) (e : Bool) (w : World) : (bSp3 a b e).run Try.prog w = .ok (.agg (spanCells ⟨a, b, e⟩).toArray) w :=
  run_build_span _ _ w (by show Instr.fill _ _ [_, _, _] = _; unfold zeroSp; rw [fill_fr, fill_to, fill_en]; rfl)

def cmpB (a b : Bd) : Int := if a.en then (if b.en then 0 else 1) else if b.en then -1 else cmpK a.key b.key
theorem bdKey {w : World} {b off : Nat} {s : Bd} (h : CellsAt w b off (bdCells s)) : CellsAt w b off (keyCells s.key) := by
  unfold bdCells at h; exact h.left
theorem bdEn {w : World} {b off : Nat} {s : Bd} (h : CellsAt w b off (bdCells s)) : w.cell? ⟨b, off + 24, none⟩ = some (.bool s.en) := by
  unfold bdCells at h; have := h.right 0 _ rfl; rwa [keyCells_length] at this
end Go.Proofs.Ytfeomnkgkppdlaa
