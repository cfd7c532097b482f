/- Arrays of eight numbers in memory; the order in which blocks became loose, as a slice of the call's own. -/
import Derived.Test.YtedcpmkfanlicaaDvCrl
set_option linter.unusedVariables false
set_option linter.unusedSimpArgs false
namespace Go.Proofs.Ytedcpmkfanlicaa
open Go Go.RowKit Go.Sort Go.Lib Go.Maps
def row8 (f : Nat → Int) : List Value := [.int .i64 (f 0), .int .i64 (f 1), .int .i64 (f 2), .int .i64 (f 3), .int .i64 (f 4), .int .i64 (f 5), .int .i64 (f 6), .int .i64 (f 7)]
def ArrAt (w : World) (g : Nat) (f : Nat → Int) : Prop := w.heap[g]? = some (.cells (row8 f).toArray 43 (0, 0))
theorem ArrAt.chg {w w' : World} {g : Nat} {f : Nat → Int} (h : ArrAt w g f) {S : Nat → Prop} (X : Chg S w w') (hs : ¬ S g) : ArrAt w' g f := by
  have hlt : g < w.heap.size := by
    by_cases hlt : g < w.heap.size
    · exact hlt
    · unfold ArrAt at h; rw [Array.getElem?_eq_none (by omega)] at h; exact absurd h (by simp)
  unfold ArrAt
  rw [X.block g hlt hs]
  exact h
theorem row8_get (f : Nat → Int) {k : Nat} (hk : k < 8) : (row8 f).toArray[k]? = some (.int .i64 (f k)) := by
  match k, hk with
  | 0, _ => rfl
  | 1, _ => rfl
  | 2, _ => rfl
  | 3, _ => rfl
  | 4, _ => rfl
  | 5, _ => rfl
  | 6, _ => rfl
  | 7, _ => rfl
theorem row8_set (f : Nat → Int) {k : Nat} (hk : k < 8) (c : Int) : (row8 f).toArray.setIfInBounds k (.int .i64 c) = (row8 fun i => if i = k then c else f i).toArray := by
  match k, hk with
  | 0, _ => rfl
  | 1, _ => rfl
  | 2, _ => rfl
  | 3, _ => rfl
  | 4, _ => rfl
  | 5, _ => rfl
  | 6, _ => rfl
  | 7, _ => rfl
theorem ArrAt.get {w : World} {g : Nat} {f : Nat → Int} (h : ArrAt w g f) {k : Nat} (hk : k < 8) : w.cell? ⟨g, k, none⟩ = some (.int .i64 (f k)) ∧ w.frozen? ⟨g, k, none⟩ = false := cell_of_blk h (row8_get f hk)
theorem ArrAt.set {w : World} {g : Nat} {f : Nat → Int} (h : ArrAt w g f) {k : Nat} (hk : k < 8) (c : Int) : ArrAt (w.setCell ⟨g, k, none⟩ (.int .i64 c)) g (fun i => if i = k then c else f i) := by
  unfold ArrAt
  rw [heap_setCell_same w g k _ 43 _ h, row8_set f hk]
theorem arr_copy {w : World} {p : Nat} {f g : Nat → Int} (h : ArrAt w p f) :
    ∃ w', w' = (((((((w.setCell ⟨p, 0, none⟩ (.int .i64 (g 0))).setCell ⟨p, 1, none⟩ (.int .i64 (g 1))).setCell ⟨p, 2, none⟩ (.int .i64 (g 2))).setCell ⟨p, 3, none⟩ (.int .i64 (g 3))).setCell ⟨p, 4, none⟩ (.int .i64 (g 4))).setCell ⟨p, 5, none⟩ (.int .i64 (g 5))).setCell ⟨p, 6, none⟩ (.int .i64 (g 6))).setCell ⟨p, 7, none⟩ (.int .i64 (g 7)) ∧
      ArrAt w' p g ∧ Chg (fun i => i = p) w w' := by
  refine ⟨_, rfl, ?_, ?_⟩
  · have := ((((((((h.set (k := 0) (by decide) (g 0)).set (k := 1) (by decide) (g 1)).set (k := 2) (by decide) (g 2)).set (k := 3) (by decide) (g 3)).set (k := 4) (by decide) (g 4)).set (k := 5) (by decide) (g 5)).set (k := 6) (by decide) (g 6)).set (k := 7) (by decide) (g 7))
    unfold ArrAt at this ⊢
    rw [this]
    rfl
  · have t : ∀ {W W' : World} {k : Nat} {v : Value}, Chg (fun i => i = p) W W' → Chg (fun i => i = p) W (W'.setCell ⟨p, k, none⟩ v) := fun X => X.trans (chg_setCell _ _ _) (fun _ _ h => h)
    exact t (t (t (t (t (t (t (t (Chg.refl _ _))))))))
def keysV (lo : List (Int × Nw)) : List Value := lo.map fun x => .int .i64 x.1
theorem keysV_length (lo : List (Int × Nw)) : (keysV lo).length = lo.length := by simp [keysV]
theorem keysV_put (lo : List (Int × Nw)) (k : Int) (b : Blk) (c : Int) : keysV (putL lo k b c) = if (look lo k).isSome then keysV lo else keysV lo ++ [.int .i64 k] := by
  have e : ∀ l : List (Int × Nw), keysV l = (l.map (·.1)).map fun x => Value.int .i64 x := fun l => by simp [keysV, List.map_map]
  rw [e, putL_keys, e]
  split <;> simp
theorem owns_len {w : World} {B e k n : Nat} {v : Value} {xs : List Value} (h : w.ownsRow B e k v n xs) : ∃ a c, v = .slice a n c := by
  rcases owns_shape h with ⟨e, h0⟩ | ⟨g, cap, e, _⟩
  · exact ⟨none, 0, by rw [e, h0]⟩
  · exact ⟨_, _, e⟩
/-- the numbers that are loose, read by their places -/
theorem owns_keys {w : World} {B n : Nat} {a0 : Option Addr} {c0 : Nat} {lo : List (Int × Nw)} (h : w.ownsRow B 3 1 (.slice a0 n c0) lo.length (keysV lo)) (t : Nat) (ht : t < lo.length) :
    ∃ g, a0 = some ⟨g, 0, none⟩ ∧ B ≤ g ∧ w.cell? ⟨g, t, none⟩ = some (.int .i64 lo[t].1) := by
  rcases owns_shape h with ⟨e, h0⟩ | ⟨g, cap, e, hg, _⟩
  · omega
  · have e' := e
    simp only [Value.slice.injEq] at e
    obtain ⟨rfl, rfl, rfl⟩ := e
    refine ⟨g, rfl, hg, ?_⟩
    have := owns_cells h rfl t (.int .i64 lo[t].1) (by simp [keysV, ht])
    rwa [Nat.zero_add] at this
theorem known_all (lo : List (Int × Nw)) (k : Int) : decide (k ∈ lo.map (·.1)) = (look lo k).isSome := by
  have h := look_keys lo k
  rw [Option.isSome_map] at h
  cases hs : (look lo k).isSome with
  | true => rw [hs] at h; exact decide_eq_true (h.2 rfl)
  | false => rw [hs] at h; exact decide_eq_false (fun hk => by have := h.1 hk; cases this)
theorem known_next (lo : List (Int × Nw)) (k : Int) (t : Nat) (ht : t < lo.length) : decide (k ∈ (lo.take (t + 1)).map (·.1)) = (decide (k ∈ (lo.take t).map (·.1)) || (lo[t].1 == k)) := by
  rw [List.take_succ_eq_append_getElem ht, List.map_append]
  simp only [List.mem_append, List.map_cons, List.map_nil, List.mem_singleton, Bool.decide_or]
  congr 1
  exact (decide_eq_decide.2 ⟨fun h => h.symm, fun h => h.symm⟩ : decide (k = lo[t].1) = decide (lo[t].1 = k))
theorem info3 : (Try.prog.info? 3).map (fun i => (i.zero, i.size, i.bytes)) = some (some (.int .i64 0), 1, 8) := by kernel_rfl
end Go.Proofs.Ytedcpmkfanlicaa
