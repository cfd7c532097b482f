/- slices.Clone and cut at a row of spans. -/
import Derived.Test.YtfeomnkgkppdlaaSpSort
import Derived.Laws.AppendOwnNone
import Derived.Shelf.SlSortCmp.NoneTotal
set_option linter.unusedVariables false
set_option linter.unusedSimpArgs false
namespace Go.Proofs.Ytfeomnkgkppdlaa
open Go Go.RowKit Go.Sort Go.Lib
attribute [local go_sem ↓] run_size24 run_size49 run_size25
attribute [local simp high] run_size24x run_size49x run_size25x

theorem info28 : (Try.prog.info? 28).map (fun i => (i.zero, i.size, i.bytes)) = some (some (.agg (spanCells zeroSp).toArray), 49, 49) := by kernel_rfl
theorem eql_nil {P : Program} (w : World) (t e : TypeId) (a : Option Addr) (n c : Nat) (h : P.underlying t = some (.slice e)) :
    (binOp .eql t (.slice a n c) (.slice none 0 0)).run P w = .ok (.bool a.isNone) w := by
  simp only [binOp]
  simp [Op.equal, Op.maxDepth, Lib.run_equalIn_slice_nil w 9999 t e a n c 0 0 h]
/-- append of any slice onto a row of the call's own -/
theorem wpList_append_any {P : Program} {w : World} {ops : Array Oper} {rest : List Oper} {o : Oper} {a : Act} {Q : Exit → Act → World → Prop} (hgd : o.guard = none) (s x : Operand) (t : TypeId)
    (ho : o.op = .call { callee := .builtin .append, args := #[s, x], argTypes := #[t, t] })
    (base : Nat) (e : TypeId) (i : TypeInfo) (z : Value) (size bytes : Nat) (ht : P.underlying t = some (.slice e)) (hi : P.info? e = some i) (hz : i.zero = some z)
    (hsize : i.size = size) (hby : i.bytes = bytes) (hzs : z.cells.size = size) (hsz : 0 < size)
    (v : Value) (n : Nat) (xs : List Value) (hs : a.eval s = v) (hown : w.ownsRow base e size v n xs)
    (ao : Option Addr) (m c : Nat) (news : List Value) (hx : a.eval x = .slice ao m c) (hl : news.length = m * size) (hn : ao = none → m = 0 ∧ c = 0) (hnews : ∀ ad, ao = some ad → ∀ j u, news[j]? = some u → w.cell? (ad.add j) = some u) (h1 : ∀ u ∈ news, u.oneCell' = true)
    (h63 : n + m ≤ maxLen) (hbytes : (n + m) * bytes ≤ 140737488355328) (hbase : base ≤ w.heap.size)
    (h : ∀ v' w', w'.ownsRow base e size v' (n + m) (xs ++ news) → Chg (fun i => base ≤ i) w w' → wpList P ops Q rest (a.put o.dst v') w') : wpList P ops Q (o :: rest) a w := by
  cases ao with
  | none =>
    obtain ⟨rfl, rfl⟩ := hn rfl
    have e0 : news = [] := List.eq_nil_of_length_eq_zero (by rw [hl]; simp)
    subst e0
    exact wpList_append_own_none hgd s x t ho base e i size ht hi v n xs hs hown hx (h v w (by simpa using hown) (Chg.refl _ _))
  | some ad =>
    exact wpList_append_own w hgd s x t ho base e i z size bytes ht hi hz hsize hby hzs hsz v n xs hs hown ad m c news hx hl (hnews ad rfl) h1 h63 hbytes hbase
      fun v' w' h2 h3 _ => h v' w' h2 (h3.chg.mono fun j _ hj => (hown.lt j hj).1)

/-- a slice of spans as it comes in -/
structure SpansIn (w : World) (v : Value) (ss : List Sp) : Prop where
  shape : ∃ a c, v = .slice a ss.length c ∧ ss.length ≤ c ∧ (0 < ss.length → ∃ b o, a = some ⟨b, o, none⟩ ∧ RowAt spanCells 49 w b o ss) ∧ (a = none → ss.length = 0 ∧ c = 0)
theorem SpansIn.chg {w w' : World} {S : Nat → Prop} {v : Value} {ss : List Sp} (h : SpansIn w v ss) (X : Chg S w w') (hS : ∀ i, i < w.heap.size → ¬ S i) : SpansIn w' v ss := by
  obtain ⟨a, c, e, hc, h, hn⟩ := h
  exact ⟨a, c, e, hc, fun hp => let ⟨b, o, e, hr⟩ := h hp; ⟨b, o, e, fun j hj => X.cells (hr j hj) (hS b ((hr j hj).lt (fun e => by have := spanCells_length ss[j]; rw [e] at this; simp at this)))⟩, hn⟩
theorem SpansIn.ext {w w' : World} {v : Value} {ss : List Sp} (h : SpansIn w v ss) (X : Ext w w') : SpansIn w' v ss := h.chg (X.chg fun _ => False) (fun _ _ h => h)
theorem SpansIn.news {w : World} {a : Option Addr} {n c : Nat} {ss : List Sp} (h : SpansIn w (.slice a n c) ss) : ∀ ad, a = some ad → ∀ j u, (flat spanCells ss)[j]? = some u → w.cell? (ad.add j) = some u := by
  obtain ⟨a', c', e, _, h, _⟩ := h
  simp only [Value.slice.injEq] at e
  obtain ⟨rfl, rfl, rfl⟩ := e
  rintro ad rfl j u hj
  have hp : 0 < ss.length := by
    cases ss with
    | nil => simp [flat] at hj
    | cons _ _ => simp
  obtain ⟨b, o, e, hr⟩ := h hp
  cases e
  rw [Addr.add_lit]
  exact RowAt.flat (enc := spanCells) (k := 49) spanCells_length hr j u hj
theorem spansIn_own {w : World} {B : Nat} {v : Value} {n : Nat} {ss : List Sp} (h : w.ownsRow B 28 49 v n (flat spanCells ss)) : SpansIn w v ss := by
  have hl := h.1
  rw [flat_length spanCells_length] at hl
  rcases owns_shape h with ⟨rfl, h0⟩ | ⟨g, cap, rfl, _, _, hc, _⟩
  · exact ⟨none, 0, by rw [show ss.length = 0 by omega], by omega, fun hp => absurd hp (by omega), fun _ => ⟨by omega, rfl⟩⟩
  · exact ⟨some ⟨g, 0, none⟩, cap, by rw [show ss.length = n by omega], by omega, fun _ => ⟨g, 0, rfl, rowAt_of_flat (enc := spanCells) (k := 49) spanCells_length (owns_cells h rfl)⟩, fun h => by cases h⟩

set_option maxHeartbeats 1000000 in
theorem clone_any (v : Value) (ss : List Sp) (w : World) (h : SpansIn w v ss) (hb : ss.length ≤ 1000000) :
    Calls Try.prog 28 #[v] w fun e w' => ∃ v', e = .returned v' ∧ w'.ownsRow w.heap.size 28 49 v' ss.length (flat spanCells ss) ∧ Chg (fun _ => False) w w' := by
  obtain ⟨i0, hi, hz0, hz1, hz2⟩ := info_parts info28
  have HI := Lib.hid h
  obtain ⟨a, cap, rfl, hc, _, hn⟩ := h
  have hq := fun w => eql_nil (P := Try.prog) w 22 28 a ss.length cap Try.underlying22
  have N1 : Hid ((flat spanCells ss).length = ss.length * 49) := flat_length spanCells_length ss
  have N3 : Hid (∀ u ∈ flat spanCells ss, u.oneCell' = true) := flat_one spanCells_one ss
  have NN := Lib.hid hn
  generalize hlen : ss.length = n at *
  have HN := Lib.hid hlen
  clear hlen hn hc
  cases a with
  | none =>
    obtain ⟨h0, h1⟩ := NN.out rfl
    have e0 : ss = [] := List.eq_nil_of_length_eq_zero (by rw [HN.out]; exact h0)
    subst h0 h1 e0
    go_enter Try.func28, Try.ntmps28
    go_wp2
    go_ret
    exact ⟨_, rfl, ⟨rfl, .inl ⟨rfl, rfl⟩⟩, Chg.refl _ _⟩
  | some ad =>
    go_enter Try.func28, Try.ntmps28
    have own0 := Lib.hid (World.ownsRow_made (e := 28) (size := 49) (base := w.heap.size) w #[] 0 (Nat.le_refl _) (Nat.zero_le _) (by simp))
    have N2 : Hid (∀ ad', some ad = some ad' → ∀ j u, (flat spanCells ss)[j]? = some u → (w.alloc (.cells #[] 28)).cell? (ad'.add j) = some u) := (HI.out.ext ((Ext.refl w).alloc _)).news
    go_wp2_with (at_builtin; refine wpList_append_any rfl _ _ 22 rfl w.heap.size 28 i0 (.agg (spanCells zeroSp).toArray) 49 49 Try.underlying22 hi hz0 hz1 hz2 rfl (by decide) _ _ _ rfl own0.out (some ad) n cap (flat spanCells ss) rfl N1.out NN.out N2.out N3.out ?c1 ?c2 ?c3 ?_)
    case c1 => unfold maxLen; omega
    case c2 => omega
    case c3 => simp
    intro v' w1 hown hch
    go_wp2
    go_ret
    refine ⟨_, rfl, by simpa using hown, ?_⟩
    exact (((Ext.refl w).alloc _).chg (fun _ => False)).trans hch (fun i hi h => absurd hi (by omega))
end Go.Proofs.Ytfeomnkgkppdlaa
