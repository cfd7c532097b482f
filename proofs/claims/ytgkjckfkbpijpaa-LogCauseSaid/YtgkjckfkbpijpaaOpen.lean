/- The arguments of a statement, opened: keys, spans, slices of them, out of what the row's reading says. -/
import Derived.Test.YtgkjckfkbpijpaaOwn
import Derived.Test.YtgkjckfkbpijpaaProg
import Derived.ProofKit
import Derived.Deep.Slices
import Derived.OpenShut
set_option linter.unusedVariables false
set_option linter.unusedSimpArgs false
namespace Go.Proofs.Ytgkjckfkbpijpaa
open Go Go.RowKit Go.Sort Go.Lib Go.ChangeShapes Go.WideShapes Go.ChangeAt Go.Deep

theorem cells5 : Try.prog.cellsOf 5 = 1 := by kernel_rfl
theorem cellsKey : Try.prog.cellsOf 24 = 24 := by kernel_rfl
theorem cellsSpan : Try.prog.cellsOf 26 = 49 := by kernel_rfl
theorem cellsB : Try.prog.cellsOf 4 = 1 := by kernel_rfl

section
variable {H : Type} {enc : TypeId × Value → H} {w : World} {base fuel : Nat} {spare : Nat → Bool} {held : Bool} {cs : List Value} {x : DataW H × List MemPlace}

theorem byte_wf {n : Int} (h : (Lit.int .u8 n).wf = true) : 0 ≤ n ∧ n < 256 := by
  have := bounds_u8 h; omega
theorem open_key (h : DataW.trod enc Try.prog w base spare held fuel 24 cs = some x) : ∃ k : Key, cs = keyCells k := by
  obtain ⟨xs, m, _, _, hl, hxl, he⟩ := DataW.trod_array Try.underlying24 h
  rw [cellsKey] at hl
  have key : ∀ i (hi : i < 24), ∃ b : UInt8, cs[i]? = some (byteV b) := by
    intro i hi
    have h1 := he i hi
    rw [cells5, Nat.mul_one, List.getElem?_eq_getElem (by omega)] at h1
    obtain ⟨n, hn, _, hw⟩ := DataW.trod_int Try.underlying5 h1
    have hb := byte_wf hw
    refine ⟨UInt8.ofNat n.toNat, ?_⟩
    have h2 : cs[i]? = some (.int .u8 n) := by
      have := congrArg (fun l => l[0]?) hn
      simpa [List.getElem?_take, List.getElem?_drop] using this
    rw [h2]
    congr 1
    show Value.int .u8 n = Value.int .u8 _
    congr 1
    rw [UInt8.toNat_ofNat_of_lt' (by show n.toNat < 256; omega)]
    omega
  obtain ⟨f, hf⟩ := choose_lt key
  refine ⟨Vector.ofFn fun i : Fin 24 => f i.1, ?_⟩
  apply List.ext_getElem?
  intro i
  by_cases hi : i < 24
  · rw [hf i hi]
    simp [keyCells, hi]
  · rw [List.getElem?_eq_none (by omega), List.getElem?_eq_none (by rw [keyCells_length]; omega)]
theorem open_span (h : DataW.trod enc Try.prog w base spare held fuel 26 cs = some x) : ∃ s : Sp, cs = spanCells s := by
  obtain ⟨xs, m, _, _, hl, hxl, he⟩ := DataW.trod_struct Try.underlying26 h
  rw [cellsSpan] at hl
  have hxl : xs.length = 3 := hxl
  have h0 : DataW.trod enc Try.prog w base spare held m 24 ((cs.drop 0).take (Try.prog.cellsOf 24)) = xs[0]? := he 0 _ rfl
  have h1 : DataW.trod enc Try.prog w base spare held m 24 ((cs.drop 24).take (Try.prog.cellsOf 24)) = xs[1]? := he 1 _ rfl
  have h2 : DataW.trod enc Try.prog w base spare held m 4 ((cs.drop 48).take (Try.prog.cellsOf 4)) = xs[2]? := he 2 _ rfl
  rw [cellsKey, List.drop_zero] at h0
  rw [cellsKey] at h1
  rw [cellsB] at h2
  rw [List.getElem?_eq_getElem (by omega)] at h0 h1 h2
  obtain ⟨a, ha⟩ := open_key h0
  obtain ⟨b, hb⟩ := open_key h1
  obtain ⟨e, he, _⟩ := DataW.trod_bool Try.underlying4 h2
  refine ⟨⟨a, b, e⟩, ?_⟩
  unfold spanCells
  rw [← ha, ← hb, ← he]
  rw [List.append_assoc]
  have e1 : (cs.drop 24).take 24 ++ (cs.drop 48).take 1 = cs.drop 24 := by
    have : (cs.drop 48).take 1 = cs.drop 48 := List.take_of_length_le (by rw [List.length_drop]; omega)
    rw [this]
    have := List.take_append_drop 24 (cs.drop 24)
    rw [List.drop_drop] at this
    exact this
  rw [e1, List.take_append_drop]

/-- the cells of an element, at their addresses -/
theorem cellsAt_of_cells? {a : Addr} {n : Nat} {vs : List Value} (h : w.cells? base a n = some vs) : ∀ j v, vs[j]? = some v → w.cell? (a.add j) = some v := by
  obtain ⟨_, hl, hc⟩ := World.cells?_some h
  intro j v hj
  rw [hc j (by have := (List.getElem?_eq_some_iff.1 hj).1; omega)]
  exact hj
theorem spot_none {a : Addr} {v : Value} (h : w.cell? a = some v) : a.spot = none := by
  unfold World.cell? at h
  split at h
  · cases hs : a.spot with
    | none => rfl
    | some n => rw [hs] at h; simp at h
  · simp at h

/-- a slice of elements of k cells, each of which reads as some α -/
theorem open_row {α : Type} [Inhabited α] {ec : α → List Value} {k : Nat} {T E : TypeId} (hT : Try.prog.underlying T = some (.slice E)) (hk : Try.prog.cellsOf E = k) (hk0 : 0 < k) (hlen : ∀ z, (ec z).length = k)
    (hE : ∀ {f cs} {x : DataW H × List MemPlace}, DataW.trod enc Try.prog w base spare held f E cs = some x → ∃ z : α, cs = ec z)
    (h : DataW.trod enc Try.prog w base spare held fuel T cs = some x) :
    ∃ (a : Option Addr) (cap : Nat) (zs : List α), cs = [.slice a zs.length cap] ∧ zs.length ≤ cap ∧ cap ≤ maxLen ∧ (0 < zs.length → ∃ b o, a = some ⟨b, o, none⟩ ∧ RowAt ec k w b o zs) ∧ (a = none → zs.length = 0 ∧ cap = 0) := by
  rcases open_slice hT h with ⟨rfl, _⟩ | ⟨a, len, cap, m, n, D, Pl, rfl, hb, hl, hm, hmm, rfl, hx⟩
  · exact ⟨none, 0, [], rfl, Nat.le_refl _, Nat.zero_le _, fun h => absurd h (by simp), fun _ => ⟨rfl, rfl⟩⟩
  · have hlm : len ≤ m := by rw [hmm]; split <;> omega
    have key : ∀ i, i < len → ∃ z : α, ∀ j v, (ec z)[j]? = some v → w.cell? ((a.add (i * k)).add j) = some v := by
      intro i hi
      obtain ⟨cs', h1, h2⟩ := hx i (by omega)
      rw [hk] at h1
      obtain ⟨z, rfl⟩ := hE h2
      exact ⟨z, cellsAt_of_cells? h1⟩
    obtain ⟨f, hf⟩ := choose_lt key
    refine ⟨some a, cap, (List.range len).map f, by simp, by simpa using hl, hm, ?_, fun h => by cases h⟩
    intro hp
    have hp' : 0 < len := by simpa using hp
    have hs : a.spot = none := by
      have h0 : (ec (f 0))[0]? = some ((ec (f 0))[0]'(by rw [hlen]; exact hk0)) := List.getElem?_eq_getElem _
      have := spot_none (hf 0 hp' 0 _ h0)
      simpa [Addr.add] using this
    obtain ⟨b, o, sp⟩ := a
    simp only at hs
    subst hs
    refine ⟨b, o, rfl, fun i hi j v hj => ?_⟩
    have hi' : i < len := by simpa using hi
    have := hf i hi' j v (by simpa using hj)
    rw [Addr.add_lit, Addr.add_lit] at this
    exact this
end
end Go.Proofs.Ytgkjckfkbpijpaa
