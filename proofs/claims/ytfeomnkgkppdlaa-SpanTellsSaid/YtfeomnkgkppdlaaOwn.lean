/- Rows that a call owns, at elements of k cells: what they hold, what the sort leaves of them, what a store elsewhere leaves. No program is named here. -/
import Derived.Test.YtfeomnkgkppdlaaCells
set_option linter.unusedVariables false
set_option linter.unusedSimpArgs false
set_option linter.unusedSectionVars false
namespace Go.Proofs.Ytfeomnkgkppdlaa
open Go Go.RowKit Go.Sort Go.Lib

section
variable {α : Type} [Inhabited α] {enc : α → List Value} {k : Nat}

/-- the cells of a list's elements, one behind the other -/
def flat (enc : α → List Value) (ks : List α) : List Value := ks.flatMap enc
theorem flat_nil : flat enc [] = [] := rfl
theorem flat_cons (x : α) (r : List α) : flat enc (x :: r) = enc x ++ flat enc r := by simp [flat]
theorem flat_append (a b : List α) : flat enc (a ++ b) = flat enc a ++ flat enc b := by simp [flat]
theorem flat_length (hk : ∀ x, (enc x).length = k) (ks : List α) : (flat enc ks).length = ks.length * k := by
  induction ks with
  | nil => simp [flat]
  | cons x r ih => rw [flat_cons, List.length_append, ih, hk, List.length_cons, Nat.add_mul, Nat.one_mul, Nat.add_comm]
theorem flat_get (hk : ∀ x, (enc x).length = k) (ks : List α) (i c : Nat) (hi : i < ks.length) (hc : c < k) : (flat enc ks)[i * k + c]? = (enc ks[i])[c]? := by
  induction ks generalizing i with
  | nil => simp at hi
  | cons x r ih =>
    rw [flat_cons]
    cases i with
    | zero => rw [Nat.zero_mul, Nat.zero_add, List.getElem?_append_left (by rw [hk]; exact hc)]; rfl
    | succ i =>
      rw [List.getElem?_append_right (by rw [hk, Nat.add_mul, Nat.one_mul]; omega), hk, show (i + 1) * k + c - k = i * k + c by rw [Nat.add_mul, Nat.one_mul]; omega, ih i (by simpa using hi)]
      rfl
theorem flat_one (h1 : ∀ x, ∀ v ∈ enc x, v.oneCell' = true) (ks : List α) : ∀ v ∈ flat enc ks, v.oneCell' = true := by
  intro v hv
  simp only [flat, List.mem_flatMap] at hv
  obtain ⟨x, _, hv⟩ := hv
  exact h1 x v hv

theorem flatK_toList (hk : ∀ x, (enc x).length = k) (ks : List α) : (flatK enc k ks.toArray).toList = flat enc ks := by
  apply List.ext_getElem?
  intro t
  by_cases ht : t < ks.length * k
  · have k0 : 0 < k := Nat.pos_of_ne_zero (by rintro rfl; simp at ht)
    have hi : t / k < ks.length := Nat.div_lt_of_lt_mul (by rwa [Nat.mul_comm])
    have hm : t % k < k := Nat.mod_lt _ k0
    have e := flat_get (enc := enc) hk ks (t / k) (t % k) hi hm
    rw [show t / k * k + t % k = t from by rw [Nat.mul_comm]; exact Nat.div_add_mod t k] at e
    rw [e]
    have h := get_flatK enc k ks.toArray t (by simpa using ht)
    have hs : t < (flatK enc k ks.toArray).size := by simpa using ht
    rw [getElem!_pos _ t hs] at h
    rw [Array.getElem?_toList, Array.getElem?_eq_getElem hs, h]
    have e2 : ks.toArray[t / k]! = ks[t / k] := by rw [getElem!_pos _ _ (by simpa using hi)]; simp
    rw [e2, getElem!_pos _ _ (by rw [hk]; exact hm), List.getElem?_eq_getElem (by rw [hk]; exact hm)]
  · rw [List.getElem?_eq_none (by simp; omega), List.getElem?_eq_none (by rw [flat_length hk]; omega)]

/-- a row of elements, from an address on -/
def RowAt (enc : α → List Value) (k : Nat) (w : World) (b off : Nat) (ks : List α) : Prop := ∀ i (h : i < ks.length), CellsAt w b (off + i * k) (enc ks[i])
theorem RowAt.ext {w w' : World} {b off : Nat} {ks : List α} (h : RowAt enc k w b off ks) (X : Ext w w') : RowAt enc k w' b off ks := fun i hi => X.cells (h i hi)
theorem RowAt.of_block {w w' : World} {b off : Nat} {ks : List α} (h : RowAt enc k w b off ks) (hb : w'.heap[b]? = w.heap[b]?) : RowAt enc k w' b off ks := fun i hi => (h i hi).of_block hb
theorem RowAt.take {w : World} {b off : Nat} {ks : List α} (h : RowAt enc k w b off ks) (n : Nat) : RowAt enc k w b off (ks.take n) := fun i hi => by
  rw [List.getElem_take]
  exact h i (by rw [List.length_take] at hi; omega)
theorem RowAt.drop {w : World} {b off : Nat} {ks : List α} (h : RowAt enc k w b off ks) (n : Nat) : RowAt enc k w b (off + n * k) (ks.drop n) := fun i hi => by
  rw [List.getElem_drop, Nat.add_assoc, ← Nat.add_mul]
  exact h (n + i) (by rw [List.length_drop] at hi; omega)
theorem RowAt.flat {w : World} {b off : Nat} {ks : List α} (hk : ∀ x, (enc x).length = k) (h : RowAt enc k w b off ks) : CellsAt w b off (flat enc ks) := by
  intro t v hv
  have ht : t < ks.length * k := by have := (List.getElem?_eq_some_iff.1 hv).1; rwa [flat_length hk] at this
  have k0 : 0 < k := Nat.pos_of_ne_zero (by rintro rfl; simp at ht)
  have hi : t / k < ks.length := Nat.div_lt_of_lt_mul (by rwa [Nat.mul_comm])
  have e := flat_get (enc := enc) hk ks (t / k) (t % k) hi (Nat.mod_lt _ k0)
  have et : t / k * k + t % k = t := by rw [Nat.mul_comm]; exact Nat.div_add_mod t k
  rw [et] at e
  rw [e] at hv
  have := h (t / k) hi (t % k) v hv
  rwa [Nat.add_assoc, et] at this
theorem rowAt_of_flat {w : World} {b off : Nat} {ks : List α} (hk : ∀ x, (enc x).length = k) (h : CellsAt w b off (flat enc ks)) : RowAt enc k w b off ks := by
  intro i hi c v hv
  have hc : c < k := by have := (List.getElem?_eq_some_iff.1 hv).1; rwa [hk] at this
  have := h (i * k + c) v (by rw [flat_get hk ks i c hi hc]; exact hv)
  rwa [← Nat.add_assoc] at this

/-- what an owned row holds -/
theorem owns_cells {w : World} {base e n : Nat} {v : Value} {xs : List Value} {g cap : Nat} (h : w.ownsRow base e k v n xs) (hv : v = .slice (some ⟨g, 0, none⟩) n cap) : CellsAt w g 0 xs := by
  intro j u hj
  have := h.cells (g := g) (by rw [hv]; rfl) j u hj
  rwa [Addr.add_lit] at this

theorem owns_shape {w : World} {base e n : Nat} {v : Value} {xs : List Value} (h : w.ownsRow base e k v n xs) : (v = .slice none 0 0 ∧ n = 0) ∨ ∃ g cap, v = .slice (some ⟨g, 0, none⟩) n cap ∧ base ≤ g ∧ g < w.heap.size ∧ n ≤ cap ∧ cap ≤ maxLen := by
  rcases h.2 with h | ⟨g, cap, cur, hv, hg, hh, h1, h2, _⟩
  · exact .inl h
  · refine .inr ⟨g, cap, hv, hg, ?_, h1, h2⟩
    by_cases hlt : g < w.heap.size
    · exact hlt
    · rw [Array.getElem?_eq_none (by omega)] at hh; exact absurd hh (by simp)

theorem owns_holds {w : World} {base e : Nat} {ks : List α} {g cap : Nat} (hk : ∀ x, (enc x).length = k) (h : w.ownsRow base e k (.slice (some ⟨g, 0, none⟩) ks.length cap) ks.length (flat enc ks)) : HoldsK enc k w g 0 ks.toArray := by
  intro j hj
  have hj' : j < ks.length * k := by simpa using hj
  have h1 := h.cellAt j hj'
  have h2 := h.frozenAt j
  refine ⟨?_, by rw [Nat.zero_add]; exact h2⟩
  rw [Nat.zero_add, h1, ← flatK_toList hk, Array.getElem?_toList]
  rw [Array.getElem?_eq_getElem hj, getElem!_pos _ j hj]
  rfl

/-- the sort's world: the row holds the sorted elements; every other old block is as it was -/
theorem sort_heap (w : World) (b n : Nat) (d : Array α) (os : Array Obj) (i : Nat) (hi : i < w.heap.size) (hne : i ≠ b) : (sortWorldK enc k w b 0 n d os).heap[i]? = w.heap[i]? := by
  unfold sortWorldK
  rw [heap_grow_old _ _ (by rw [size_putRowK]; exact hi)]
  show (w.heap.modify b _)[i]? = _
  rw [Array.getElem?_modify, if_neg (fun h => hne h.symm)]
theorem sort_size (w : World) (b n : Nat) (d : Array α) (os : Array Obj) : w.heap.size ≤ (sortWorldK enc k w b 0 n d os).heap.size := size_sortWorldK_c enc k w b 0 n d os
theorem sort_owns {w : World} {base e : Nat} {ks ks' : List α} {g cap n : Nat} {os : Array Obj} (hk : ∀ x, (enc x).length = k) (h : w.ownsRow base e k (.slice (some ⟨g, 0, none⟩) ks.length cap) ks.length (flat enc ks)) (hl : ks'.length = ks.length) :
    (sortWorldK enc k w g 0 n ks'.toArray os).ownsRow base e k (.slice (some ⟨g, 0, none⟩) ks.length cap) ks.length (flat enc ks') := by
  refine ⟨by rw [flat_length hk, hl], ?_⟩
  rcases h.2 with ⟨h0, _⟩ | ⟨g', cap', cur, hv, hg, hh, h1, h2, h3, h4⟩
  · exact absurd h0 (by simp)
  · simp only [Value.slice.injEq, Option.some.injEq, Addr.mk.injEq, and_true, true_and] at hv
    obtain ⟨rfl, rfl⟩ := hv
    have hlt : g < w.heap.size := by
      by_cases hlt : g < w.heap.size
      · exact hlt
      · rw [Array.getElem?_eq_none (by omega)] at hh; exact absurd hh (by simp)
    refine .inr ⟨g, cap, putCells id 0 (flatK enc k ks'.toArray) cur, rfl, hg, ?_, h1, h2, by simp [putCells, h3], ?_⟩
    · unfold sortWorldK
      rw [heap_grow_old _ _ (by rw [size_putRowK]; exact hlt)]
      show (w.heap.modify g _)[g]? = _
      rw [Array.getElem?_modify, if_pos rfl, hh]
      rfl
    · rw [← flatK_toList hk]
      apply List.ext_getElem?
      intro t
      have hsz : (flatK enc k ks'.toArray).size = ks.length * k := by simp [hl]
      by_cases ht : t < ks.length * k
      · have hc : t < cur.size := by rw [h3]; exact Nat.lt_of_lt_of_le ht (Nat.mul_le_mul_right _ h1)
        rw [List.getElem?_take_of_lt ht, Array.getElem?_toList, Array.getElem?_toList]
        simp only [putCells, Array.getElem?_mapIdx, Array.getElem?_eq_getElem hc, Option.map_some]
        rw [if_pos ⟨Nat.zero_le _, by omega⟩, Nat.sub_zero, Array.getElem?_eq_getElem (by omega), getElem!_pos _ t (by omega)]
        rfl
      · rw [List.getElem?_eq_none (by rw [List.length_take]; omega), List.getElem?_eq_none (by simp [hl]; omega)]
end

/-- rows of unlike element types lie in unlike blocks -/
theorem owns_apart {w : World} {b1 b2 e1 e2 k1 k2 n1 n2 : Nat} {v1 v2 : Value} {x1 x2 : List Value} (h1 : w.ownsRow b1 e1 k1 v1 n1 x1) (h2 : w.ownsRow b2 e2 k2 v2 n2 x2) (hne : e1 ≠ e2) : v1.ownBlock = none ∨ v1.ownBlock ≠ v2.ownBlock := by
  rcases h1.2 with ⟨rfl, _⟩ | ⟨g1, c1, u1, rfl, _, hh1, _⟩
  · exact .inl rfl
  · refine .inr ?_
    rcases h2.2 with ⟨rfl, _⟩ | ⟨g2, c2, u2, rfl, _, hh2, _⟩
    · simp [Value.ownBlock]
    · intro h
      simp only [Value.ownBlock, Option.some.injEq] at h
      subst h
      rw [hh1] at hh2
      simp only [Option.some.injEq, Obj.cells.injEq] at hh2
      exact hne hh2.2.1
theorem owns_apart_block {w : World} {b1 e1 e2 k1 n1 p : Nat} {v1 : Value} {x1 : List Value} {cs : Array Value} {fr : Nat × Nat} (h1 : w.ownsRow b1 e1 k1 v1 n1 x1) (h2 : w.heap[p]? = some (.cells cs e2 fr)) (hne : e1 ≠ e2) : v1.ownBlock = none ∨ v1.ownBlock ≠ some p := by
  rcases h1.2 with ⟨rfl, _⟩ | ⟨g1, c1, u1, rfl, _, hh1, _⟩
  · exact .inl rfl
  · refine .inr ?_
    intro h
    simp only [Value.ownBlock, Option.some.injEq] at h
    subst h
    rw [hh1] at h2
    simp only [Option.some.injEq, Obj.cells.injEq] at h2
    exact hne h2.2.1

theorem owns_mono {w : World} {b B e k n : Nat} {v : Value} {xs : List Value} (h : w.ownsRow b e k v n xs) (hB : B ≤ b) : w.ownsRow B e k v n xs := by
  refine ⟨h.1, ?_⟩
  rcases h.2 with h0 | ⟨g, cap, cur, hv, hg, r⟩
  · exact .inl h0
  · exact .inr ⟨g, cap, cur, hv, Nat.le_trans hB hg, r⟩

/-- w' is w but for the blocks of S, and new ones -/
structure Chg (S : Nat → Prop) (w w' : World) : Prop where
  os : w'.os = w.os
  tape : w'.tape = w.tape
  output : w'.output = w.output
  size : w.heap.size ≤ w'.heap.size
  block : ∀ i, i < w.heap.size → ¬ S i → w'.heap[i]? = w.heap[i]?
theorem Chg.refl (S : Nat → Prop) (w : World) : Chg S w w := ⟨rfl, rfl, rfl, Nat.le_refl _, fun _ _ _ => rfl⟩
theorem Chg.trans {S T : Nat → Prop} {a b c : World} (h : Chg S a b) (k : Chg T b c) (hT : ∀ i, i < a.heap.size → T i → S i) : Chg S a c :=
  ⟨k.os.trans h.os, k.tape.trans h.tape, k.output.trans h.output, Nat.le_trans h.size k.size, fun i hi hs => (k.block i (Nat.lt_of_lt_of_le hi h.size) (fun t => hs (hT i hi t))).trans (h.block i hi hs)⟩
theorem Chg.mono {S T : Nat → Prop} {a b : World} (h : Chg S a b) (hT : ∀ i, i < a.heap.size → S i → T i) : Chg T a b :=
  ⟨h.os, h.tape, h.output, h.size, fun i hi hs => h.block i hi fun s => hs (hT i hi s)⟩
theorem Chg.drew {S : Nat → Prop} {a b : World} (h : Chg S a b) : Chg S a b.drew := ⟨h.os, h.tape, h.output, h.size, h.block⟩
theorem Chg.drewN {S : Nat → Prop} {a b : World} (h : Chg S a b) (n : Nat) : Chg S a (b.drewN n) := ⟨h.os, h.tape, h.output, h.size, h.block⟩
theorem Ext.chg {w w' : World} (h : Ext w w') (S : Nat → Prop) : Chg S w w' :=
  let b := h.below; ⟨b.os, b.tape, b.output, b.size, fun i hi _ => b.block i hi⟩
theorem _root_.Go.World.grownBy.chg {w w' : World} {row : Option Nat} (h : w.grownBy w' row) : Chg (fun i => row = some i) w w' :=
  ⟨h.os, h.tape, h.output, h.size, fun i hi hs => h.block i hi fun e => hs e.symm⟩
theorem sort_chg {α : Type} [Inhabited α] (enc : α → List Value) (k : Nat) (w : World) (b n : Nat) (d : Array α) (os : Array Obj) : Chg (fun i => i = b) w (sortWorldK enc k w b 0 n d os) :=
  ⟨rfl, rfl, rfl, sort_size w b n d os, fun i hi hne => sort_heap w b n d os i hi hne⟩
theorem chg_setCell (w : World) (a : Addr) (v : Value) : Chg (fun i => i = a.block) w (w.setCell a v) :=
  ⟨rfl, rfl, rfl, by simp, fun i hi hne => Below.heap_setCell w a v i hne⟩
theorem chg_alloc (w : World) (o : Obj) (S : Nat → Prop) : Chg S w (w.alloc o) := ((Ext.refl w).alloc o).chg S
theorem Chg.below {S : Nat → Prop} {B : Nat} {w w' : World} (h : Chg S w w') (hB : B ≤ w.heap.size) (hS : ∀ i, i < w.heap.size → S i → B ≤ i) : RowKit.Below B w w' :=
  ⟨h.os, h.tape, h.output, h.size, fun i hi => h.block i (by omega) fun s => by have := hS i (by omega) s; omega⟩
theorem Chg.cell {S : Nat → Prop} {w w' : World} (h : Chg S w w') {a : Addr} {v : Value} (hc : w.cell? a = some v) (hs : ¬ S a.block) : w'.cell? a = some v :=
  (World.cell?_of_block (h.block _ (block_lt_of_cell hc) hs)).trans hc
theorem Chg.cells {S : Nat → Prop} {w w' : World} (h : Chg S w w') {b off : Nat} {vs : List Value} (hc : CellsAt w b off vs) (hs : ¬ S b) : CellsAt w' b off vs := fun j v hv => h.cell (hc j v hv) hs
theorem Chg.owns {S : Nat → Prop} {w w' : World} (h : Chg S w w') {base e k n : Nat} {v : Value} {xs : List Value} (ho : w.ownsRow base e k v n xs) (hs : ∀ i, v.ownBlock = some i → ¬ S i) : w'.ownsRow base e k v n xs := by
  refine ⟨ho.1, ?_⟩
  rcases ho.2 with h0 | ⟨g, cap, cur, hv, hg, hh, r⟩
  · exact .inl h0
  · refine .inr ⟨g, cap, cur, hv, hg, ?_, r⟩
    have hlt := (ho.lt g (by rw [hv]; rfl)).2
    rw [h.block g hlt (hs g (by rw [hv]; rfl))]
    exact hh
/-- append onto a row of the call's own: the new row lies where the old one did, or in a new block -/
theorem wpList_append_own2 {P : Program} {w : World} {ops : Array Oper} {rest : List Oper} {o : Oper} {a : Act} {Q : Exit → Act → World → Prop} (hgd : o.guard = none) (s x : Operand) (t : TypeId)
    (ho : o.op = .call { callee := .builtin .append, args := #[s, x], argTypes := #[t, t] })
    (base : Nat) (e : TypeId) (i : TypeInfo) (z : Value) (size bytes : Nat) (ht : P.underlying t = some (.slice e)) (hi : P.info? e = some i) (hz : i.zero = some z)
    (hsize : i.size = size) (hby : i.bytes = bytes) (hzs : z.cells.size = size) (hsz : 0 < size)
    (v : Value) (n : Nat) (xs : List Value) (hs : a.eval s = v) (hown : w.ownsRow base e size v n xs)
    (ad : Addr) (m c : Nat) (news : List Value) (hx : a.eval x = .slice (some ad) m c) (hl : news.length = m * size) (hnews : ∀ j u, news[j]? = some u → w.cell? (ad.add j) = some u) (h1 : ∀ u ∈ news, u.oneCell' = true)
    (hm : 0 < m) (h63 : n + m ≤ maxLen) (hbytes : (n + m) * bytes ≤ 140737488355328) (hbase : base ≤ w.heap.size)
    (h : ∀ v' w', w'.ownsRow base e size v' (n + m) (xs ++ news) → w.grownBy w' v.ownBlock → (v'.ownBlock = v.ownBlock ∨ ∃ g, v'.ownBlock = some g ∧ w.heap.size ≤ g) → wpList P ops Q rest (a.put o.dst v') w') : wpList P ops Q (o :: rest) a w := by
  have grows : ∀ (ao : Option Addr) (cap : Nat), v = .slice ao n cap → (ao = none → n = 0 ∧ cap = 0) → (∀ b, ao = some b → ∀ j u, xs[j]? = some u → w.cell? (b.add j) = some u) → cap < n + m → wpList P ops Q (o :: rest) a w := by
    intro ao cap hv h0 hc hfull
    refine wpList_append_grows w hgd s x t ho e i z size bytes ht hi hz hsize hby hzs hsz ao n cap xs (by rw [hs, hv]) h0 hown.1 hc ad m c news hx hl hnews h1 hfull h63 hbytes ?_
    intro v' w' h2 h3
    refine h v' w' ?_ ⟨h3.os, h3.tape, h3.output, h3.size, fun k hk _ => h3.block k hk (by simp)⟩ ?_
    · refine ⟨h2.1, ?_⟩
      rcases h2.2 with h4 | ⟨g, cap', cur, hv', hg, r⟩
      · exact .inl h4
      · exact .inr ⟨g, cap', cur, hv', Nat.le_trans hbase hg, r⟩
    · rcases h2.2 with ⟨h4, h5⟩ | ⟨g, cap', cur, hv', hg, r⟩
      · omega
      · exact .inr ⟨g, by rw [hv']; rfl, hg⟩
  rcases hown.2 with ⟨h2, h3⟩ | ⟨g, cap, cur, hv, hg, hh, hnc, hcm, r⟩
  · subst h3
    exact grows none 0 h2 (fun _ => ⟨rfl, rfl⟩) (fun b hb => by simp at hb) (by omega)
  · by_cases hr : n + m ≤ cap
    · subst hv
      refine wpList_append_fits w hgd s x t ho base e i size ht hi hsize g n cap xs hs hown ad m c news hx hl hnews h1 hr ?_
      intro w' h2 h3
      exact h _ w' h2 h3 (.inl rfl)
    · exact grows (some ⟨g, 0, none⟩) cap hv (fun hb => by simp at hb) (fun b hb => by simp only [Option.some.injEq] at hb; subst hb; exact hown.cells (g := g) (by rw [hv]; rfl)) (by omega)

theorem setRow_alloc (W : World) (cs cs' : Array Value) (T : TypeId) : (W.alloc (.cells cs T)).setRow W.heap.size cs' = W.alloc (.cells cs' T) := by
  show ({ W with heap := (W.heap.push _).modify W.heap.size _ } : World) = { W with heap := W.heap.push _ }
  congr 1
  apply Array.ext_getElem?
  intro i
  rw [Array.getElem?_modify, Array.getElem?_push, Array.getElem?_push]
  by_cases h : W.heap.size = i
  · subst h; simp
  · rw [if_neg h, if_neg (fun e => h e.symm), if_neg (fun e => h e.symm)]
theorem store_whole (P : Program) (vs : List Value) (h1 : ∀ v ∈ vs, v.oneCell' = true) (W : World) (cs : Array Value) (T : TypeId) (h : cs.size = vs.length) :
    Sem.run P (storeCells ⟨W.heap.size, 0, none⟩ vs 0) (W.alloc (.cells cs T)) = .ok () (W.alloc (.cells vs.toArray T)) := by
  rw [run_storeCells_at P W.heap.size 0 T vs 0 cs _ (heap_alloc_new W _) (by omega) h1, setRow_alloc]
  congr 3
  simp [h]
end Go.Proofs.Ytfeomnkgkppdlaa
