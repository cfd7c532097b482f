/- The arguments of a statement of the device seat, opened: steps, slices of them, out of what the row's reading says. -/
import Derived.Test.YtedcpmkfanlicaaDvWr
import Derived.ProofKit
import Derived.Deep.Slices
import Derived.OpenShut
set_option linter.unusedVariables false
set_option linter.unusedSimpArgs false
namespace Go.Proofs.Ytedcpmkfanlicaa
open Go Go.RowKit Go.Sort Go.Lib Go.ChangeShapes Go.WideShapes Go.ChangeAt Go.Deep

/-- a step, as it comes in -/
structure OpV where
  kind : Int
  n : Int
  c : Int
  less : Int
  mask : Int
  torn : Int
  bytes : Int
  wk : wfK kind
  wn : wfK n
  wc : wfK c
  wl : wfK less
  wm : u64 mask
  wt : wfK torn
  wb : wfK bytes
instance : Inhabited OpV := ⟨⟨0, 0, 0, 0, 0, 0, 0, wf_small (by decide) (by decide), wf_small (by decide) (by decide), wf_small (by decide) (by decide), wf_small (by decide) (by decide), ⟨by decide, by decide⟩, wf_small (by decide) (by decide), wf_small (by decide) (by decide)⟩⟩
def opCells (o : OpV) : List Value := [.int .i64 o.kind, .int .i64 o.n, .int .i64 o.c, .int .i64 o.less, .int .u64 o.mask, .int .i64 o.torn, .int .i64 o.bytes]
theorem opCells_length (o : OpV) : (opCells o).length = 7 := rfl
theorem ownK : ownKnob Try.prog.godebug = none := by kernel_rfl
theorem laidOut : laidOutB Try.prog = true := by kernel_rfl
theorem cells3 : Try.prog.cellsOf 3 = 1 := by kernel_rfl
theorem cells23 : Try.prog.cellsOf 23 = 1 := by kernel_rfl
theorem cells30 : Try.prog.cellsOf 30 = 7 := by kernel_rfl
theorem u64_wf {n : Int} (h : (Lit.int .u64 n).wf = true) : u64 n := by
  simp [Lit.wf, IntKind.min, IntKind.max, IntKind.signed, IntKind.bits] at h
  unfold u64
  omega

section
variable {H : Type} {enc : TypeId × Value → H} {w : World} {base fuel : Nat} {spare : Nat → Bool} {held : Bool} {cs : List Value} {x : DataW H × List MemPlace}
theorem open_op (h : DataW.trod enc Try.prog w base spare held fuel 30 cs = some x) : ∃ o : OpV, cs = opCells o := by
  obtain ⟨xs, m, _, _, hl, hxl, he⟩ := DataW.trod_struct Try.underlying30 h
  rw [cells30] at hl
  have hxl : xs.length = 7 := hxl
  have key : ∀ i (hi : i < 7) k t, Try.prog.underlying t = some (.int k) → Try.prog.cellsOf t = 1 → (DataW.trod enc Try.prog w base spare held m t ((cs.drop i).take (Try.prog.cellsOf t)) = xs[i]?) → ∃ n, cs[i]? = some (.int k n) ∧ (Lit.int k n).wf = true := by
    intro i hi k t ht hc h1
    rw [hc, List.getElem?_eq_getElem (by omega)] at h1
    obtain ⟨n, hn, _, hw⟩ := DataW.trod_int ht h1
    refine ⟨n, ?_, hw⟩
    have := congrArg (fun l => l[0]?) hn
    simpa [List.getElem?_take, List.getElem?_drop] using this
  obtain ⟨n0, e0, w0⟩ := key 0 (by omega) .i64 3 Try.underlying3 cells3 (he 0 _ rfl)
  obtain ⟨n1, e1, w1⟩ := key 1 (by omega) .i64 3 Try.underlying3 cells3 (he 1 _ rfl)
  obtain ⟨n2, e2, w2⟩ := key 2 (by omega) .i64 3 Try.underlying3 cells3 (he 2 _ rfl)
  obtain ⟨n3, e3, w3⟩ := key 3 (by omega) .i64 3 Try.underlying3 cells3 (he 3 _ rfl)
  obtain ⟨n4, e4, w4⟩ := key 4 (by omega) .u64 23 Try.underlying23 cells23 (he 4 _ rfl)
  obtain ⟨n5, e5, w5⟩ := key 5 (by omega) .i64 3 Try.underlying3 cells3 (he 5 _ rfl)
  obtain ⟨n6, e6, w6⟩ := key 6 (by omega) .i64 3 Try.underlying3 cells3 (he 6 _ rfl)
  refine ⟨⟨n0, n1, n2, n3, n4, n5, n6, w0, w1, w2, w3, u64_wf w4, w5, w6⟩, ?_⟩
  apply List.ext_getElem?
  intro i
  match i with
  | 0 => exact e0
  | 1 => exact e1
  | 2 => exact e2
  | 3 => exact e3
  | 4 => exact e4
  | 5 => exact e5
  | 6 => exact e6
  | j + 7 => rw [List.getElem?_eq_none (by omega), List.getElem?_eq_none (by rw [opCells_length]; omega)]

/-- the cells of an element, at their addresses -/
theorem cellsAt_of_cells? {a : Addr} {n : Nat} {vs : List Value} (h : w.cells? base a n = some vs) : ∀ j v, vs[j]? = some v → w.cell? (a.add j) = some v := by
  obtain ⟨_, hl, hc⟩ := World.cells?_some h
  intro j v hj
  rw [hc j (by have := (List.getElem?_eq_some_iff.1 hj).1; omega)]
  exact hj
theorem spot_none {a : Addr} {v : Value} (h : w.cell? a = some v) : a.spot = none := by
  unfold World.cell? at h
  split at h
  · cases hs : a.spot with
    | none => rfl
    | some n => rw [hs] at h; simp at h
  · simp at h

/-- a slice of elements of k cells, each of which reads as some α -/
theorem open_row {α : Type} [Inhabited α] {ec : α → List Value} {k : Nat} {T E : TypeId} (hT : Try.prog.underlying T = some (.slice E)) (hk : Try.prog.cellsOf E = k) (hk0 : 0 < k) (hlen : ∀ z, (ec z).length = k)
    (hE : ∀ {f cs} {x : DataW H × List MemPlace}, DataW.trod enc Try.prog w base spare held f E cs = some x → ∃ z : α, cs = ec z)
    (h : DataW.trod enc Try.prog w base spare held fuel T cs = some x) :
    ∃ (a : Option Addr) (cap : Nat) (zs : List α), cs = [.slice a zs.length cap] ∧ zs.length ≤ cap ∧ cap ≤ maxLen ∧ (0 < zs.length → ∃ b o, a = some ⟨b, o, none⟩ ∧ RowAt ec k w b o zs) ∧ (a = none → zs.length = 0 ∧ cap = 0) := by
  rcases open_slice hT h with ⟨rfl, _⟩ | ⟨a, len, cap, m, n, D, Pl, rfl, hb, hl, hm, hmm, rfl, hx⟩
  · exact ⟨none, 0, [], rfl, Nat.le_refl _, Nat.zero_le _, fun h => absurd h (by simp), fun _ => ⟨rfl, rfl⟩⟩
  · have hlm : len ≤ m := by rw [hmm]; split <;> omega
    have key : ∀ i, i < len → ∃ z : α, ∀ j v, (ec z)[j]? = some v → w.cell? ((a.add (i * k)).add j) = some v := by
      intro i hi
      obtain ⟨cs', h1, h2⟩ := hx i (by omega)
      rw [hk] at h1
      obtain ⟨z, rfl⟩ := hE h2
      exact ⟨z, cellsAt_of_cells? h1⟩
    obtain ⟨f, hf⟩ := choose_lt key
    refine ⟨some a, cap, (List.range len).map f, by simp, by simpa using hl, hm, ?_, fun h => by cases h⟩
    intro hp
    have hp' : 0 < len := by simpa using hp
    have hs : a.spot = none := by
      have h0 : (ec (f 0))[0]? = some ((ec (f 0))[0]'(by rw [hlen]; exact hk0)) := List.getElem?_eq_getElem _
      have := spot_none (hf 0 hp' 0 _ h0)
      simpa [Addr.add] using this
    obtain ⟨b, o, sp⟩ := a
    simp only at hs
    subst hs
    refine ⟨b, o, rfl, fun i hi j v hj => ?_⟩
    have hi' : i < len := by simpa using hi
    have := hf i hi' j v (by simpa using hj)
    rw [Addr.add_lit, Addr.add_lit] at this
    exact this
end
/-- a list of steps, as it comes in -/
structure OpsIn (w : World) (a : Option Addr) (l : List OpV) : Prop where
  small : l.length ≤ 9223372036854775807
  at_ : 0 < l.length → ∃ b o, a = some ⟨b, o, none⟩ ∧ RowAt opCells 7 w b o l
set_option maxRecDepth 100000 in
theorem ops_arg {H : Type} {enc : TypeId × Value → H} {w : World} {base base2 : Nat} {spare : Nat → Bool} {held : Bool} {r : Reach} {v : Value} {d : DataW H} {ps : List MemPlace}
    (hv : Value.okWide Try.prog w r base2 22 v) (h : DataW.Trod enc Try.prog w base spare held 22 v d ps) : ∃ (a : Option Addr) (cap : Nat) (l : List OpV), v = .slice a l.length cap ∧ OpsIn w a l := by
  obtain ⟨a, len, cap, rfl⟩ := okWide_slice Try.underlying22 hv
  obtain ⟨f, hf⟩ := h
  obtain ⟨a', cap', zs, e, hl, hm, hr, hn⟩ := open_row (T := 22) (E := 30) (k := 7) (ec := opCells) Try.underlying22 cells30 (by decide) opCells_length open_op hf
  simp only [Value.cells, List.cons.injEq, and_true] at e
  exact ⟨a', cap', zs, e, by have : maxLen ≤ 9223372036854775807 := by unfold maxLen; omega
                             omega, hr⟩
theorem OpsIn.get {w : World} {a : Option Addr} {l : List OpV} (h : OpsIn w a l) (i : Nat) (hi : i < l.length) : ∃ b o, a = some ⟨b, o, none⟩ ∧ b < w.heap.size ∧ CellsAt w b (o + i * 7) (opCells l[i]) := by
  obtain ⟨b, o, e, r⟩ := h.at_ (by omega)
  exact ⟨b, o, e, (r i hi).lt (by simp [opCells]), r i hi⟩
end Go.Proofs.Ytedcpmkfanlicaa
