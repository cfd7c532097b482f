/- Any: the closure, slices.IndexFunc and slices.ContainsFunc at a row of keys, by their contracts. -/
import Derived.Test.YtfeomnkgkppdlaaSpHas
set_option linter.unusedVariables false
set_option linter.unusedSimpArgs false
namespace Go.Proofs.Ytfeomnkgkppdlaa
open Go Go.RowKit Go.Sort Go.Lib
attribute [local go_sem ↓] run_size24 run_size49 run_size25
attribute [local simp high] run_size24x run_size49x run_size25x

/-- a slice of keys as it comes in -/
structure KeysIn (w : World) (v : Value) (ks : List Key) : Prop where
  shape : ∃ a c, v = .slice a ks.length c ∧ ks.length ≤ c ∧ (0 < ks.length → ∃ b o, a = some ⟨b, o, none⟩ ∧ RowAt keyCells 24 w b o ks) ∧ (a = none → ks.length = 0 ∧ c = 0)
theorem KeysIn.chg {w w' : World} {S : Nat → Prop} {v : Value} {ks : List Key} (h : KeysIn w v ks) (X : Chg S w w') (hS : ∀ i, i < w.heap.size → ¬ S i) : KeysIn w' v ks := by
  obtain ⟨a, c, e, hc, h, hn⟩ := h
  exact ⟨a, c, e, hc, fun hp => let ⟨b, o, e, hr⟩ := h hp; ⟨b, o, e, fun j hj => X.cells (hr j hj) (hS b ((hr j hj).lt (fun e => by have := keyCells_length ks[j]; rw [e] at this; simp at this)))⟩, hn⟩
theorem KeysIn.ext {w w' : World} {v : Value} {ks : List Key} (h : KeysIn w v ks) (X : Ext w w') : KeysIn w' v ks := h.chg (X.chg fun _ => False) (fun _ _ h => h)
theorem KeysIn.length {w : World} {v : Value} {ks : List Key} (h : KeysIn w v ks) : ∃ a c, v = .slice a ks.length c := by
  obtain ⟨a, c, e, _⟩ := h; exact ⟨a, c, e⟩
theorem KeysIn.loads {w : World} {v : Value} {ks : List Key} (h : KeysIn w v ks) (hp : 0 < ks.length) : ∃ b o c, v = .slice (some ⟨b, o, none⟩) ks.length c ∧ ∀ j (hj : j < ks.length), CellsAt w b (o + j * 24) (keyCells ks[j]) := by
  obtain ⟨a, c, rfl, hc, hr, hn⟩ := h
  obtain ⟨b, o, rfl, hr2⟩ := hr hp
  exact ⟨b, o, c, rfl, hr2⟩
theorem keysIn_one {w : World} {b : Nat} {k : Key} (h : CellsAt w b 0 (keyCells k)) : KeysIn w (.slice (some ⟨b, 0, none⟩) 1 1) [k] :=
  ⟨some ⟨b, 0, none⟩, 1, rfl, Nat.le_refl _, fun _ => ⟨b, 0, rfl, fun i hi => by
    have : i = 0 := by simpa using hi
    subst this
    simpa using h⟩, fun h => by cases h⟩

def anyL (ss : List Sp) (ks : List Key) : Bool := ks.any (fun k => hasL k ss)

set_option maxHeartbeats 400000 in
theorem any1_any (k : Key) (g : Nat) (v : Value) (ss : List Sp) (w : World) (hg : w.cell? ⟨g, 0, none⟩ = some v) (hs : SpansIn w v ss) (hn : ss.length ≤ 1000000) :
    Calls Try.prog 45 #[keyV k, .pointer (some ⟨g, 0, none⟩)] w fun e w' => e = .returned (.bool (hasL k ss)) ∧ Ext w w' := by
  have mixed := Try.mixed
  have k1 : ¬ K24 = 0 := by decide
  have k2 : ¬ K49 = 0 := by decide
  have l0 := (cellsAt_new w (keyCells k) 26).load Try.prog K24 (keyCells_length k)
  have X0 : Hid (Ext w (w.alloc (.cells (keyCells k).toArray 26))) := (Ext.refl w).alloc _
  have l1 := X0.out.cell hg
  have ci := Lib.hid (has_of k v ss (w.alloc (.cells (keyCells k).toArray 26)) (hs.ext X0.out) hn)
  obtain ⟨a, c, rfl⟩ := hs.length
  clear hs hg
  unfold keyV at ci ⊢
  go_enter Try.func45, Try.ntmps45
  go_wp2_with fail
  refine ci.out.mono ?_
  rintro e w1 ⟨rfl, X1⟩
  have X1 : Hid (Ext w w1) := X0.out.trans X1
  clear ci l0 l1
  go_wp2
  go_ret
  exact ⟨rfl, X1.out⟩

/-- how many of the first stand before the first that is had -/
def firstAny (ss : List Sp) (ks : List Key) : Int := match ks.findIdx? (fun k => hasL k ss) with | some i => i | none => -1
theorem firstAny_iff (ss : List Sp) (ks : List Key) : decide (0 ≤ firstAny ss ks) = anyL ss ks := by
  unfold firstAny anyL
  cases h : ks.findIdx? (fun k => hasL k ss) with
  | none =>
    rw [List.findIdx?_eq_none_iff] at h
    have : ks.any (fun k => hasL k ss) = false := by rw [List.any_eq_false]; intro x hx; rw [h x hx]; decide
    rw [this]; decide
  | some i =>
    rw [List.findIdx?_eq_some_iff_getElem] at h
    obtain ⟨hi, h1, _⟩ := h
    have : ks.any (fun k => hasL k ss) = true := by rw [List.any_eq_true]; exact ⟨_, List.getElem_mem hi, h1⟩
    rw [this]
    simp

set_option maxHeartbeats 1000000 in
theorem index_any (g : Nat) (vs v : Value) (ss : List Sp) (ks : List Key) (w : World) (hg : w.cell? ⟨g, 0, none⟩ = some vs) (hs : SpansIn w vs ss) (hm : ss.length ≤ 1000000) (hk : KeysIn w v ks) (hn : ks.length ≤ 4611686018427387904) :
    Calls Try.prog 53 #[v, .func (.func 45) #[] #[.pointer (some ⟨g, 0, none⟩)]] w fun e w' => e = .returned (.int .i64 (firstAny ss ks)) ∧ Ext w w' := by
  have mixed := Try.mixed
  have k1 : ¬ K24 = 0 := by decide
  have k2 : ¬ K49 = 0 := by decide
  have HS := Lib.hid hs
  have HK := Lib.hid hk
  have HG := Lib.hid hg
  have HM := Lib.hid hm
  obtain ⟨a, cap, rfl⟩ := hk.length
  clear hs hk hg hm
  generalize hlen : ks.length = n at hn HK ⊢
  have HN := Lib.hid hlen
  clear hlen
  go_enter Try.func53, Try.ntmps53
  go_wp2
  go_loopg [8] n (fun kx s8 wr => ∃ i : Nat, s8 = .int .i64 i ∧ i ≤ n ∧ n - i ≤ kx ∧ Aside (∀ j (h : j < ks.length), j < i → hasL ks[j] ss = false) ∧ Aside (Ext w wr))
  case atStart => exact ⟨0, rfl, Nat.zero_le _, by omega, fun j h hj => absurd hj (by omega), Ext.refl _⟩
  case round =>
    obtain ⟨i, rfl, hin, hg, A, X⟩ := hrel
    by_cases hlt : i < n
    · have hi : i < ks.length := by have := HN.out; omega
      obtain ⟨b, off, d, e1, L1⟩ := HK.out.loads (by omega)
      simp only [Value.slice.injEq] at e1
      obtain ⟨rfl, h1, rfl⟩ := e1
      clear h1
      obtain ⟨s, hs⟩ : ∃ s, s = ks[i] := ⟨_, rfl⟩
      have l1 : Sem.run Try.prog (loadCellsFrom ⟨b, off + i * K24, none⟩ 0 K24 #[]) wr = .ok (keyCells s).toArray wr := by
        rw [hs]; exact (X.out.cells (L1 i hi)).load _ K24 (keyCells_length _)
      have cl := Lib.hid (any1_any s g vs ss wr (X.out.cell HG.out) (HS.out.ext X.out) HM.out)
      unfold keyV at cl
      have HE := Lib.hid hs
      clear hs L1
      go_wp2_with fail
      refine cl.out.mono ?_
      rintro e w1 ⟨rfl, X1⟩
      have X1 := Lib.hid X1
      clear cl
      cases he : hasL s ss with
      | true =>
        have R : Hid (firstAny ss ks = (i : Int)) := by
          show firstAny ss ks = _
          unfold firstAny
          rw [show ks.findIdx? (fun k => hasL k ss) = some i from by
            rw [List.findIdx?_eq_some_iff_getElem]
            exact ⟨hi, by rw [← HE.out]; exact he, fun j hj => by rw [A.out j (by omega) hj]; decide⟩]
        go_wp2
        go_ret
        exact ⟨retI R.out.symm, X.out.trans X1.out⟩
      | false =>
        go_wp2
        go_roundg (n - (i + 1))
        case measure => omega
        case rel =>
          refine ⟨i + 1, by go_num, by omega, Nat.le_refl _, fun j h hj => ?_, X.out.trans X1.out⟩
          by_cases e : j = i
          · subst e; rw [← HE.out]; exact he
          · exact A.out j h (by omega)
    · have R : Hid (firstAny ss ks = -1) := by
        show firstAny ss ks = _
        unfold firstAny
        rw [show ks.findIdx? (fun k => hasL k ss) = none from by
          rw [List.findIdx?_eq_none_iff]
          intro x hx
          obtain ⟨j, hj, rfl⟩ := List.getElem_of_mem hx
          exact A.out j hj (by have := HN.out; omega)]
      go_wp2
      go_ret
      exact ⟨retI R.out.symm, X.out⟩

set_option maxHeartbeats 400000 in
theorem contains_any (g : Nat) (vs v : Value) (ss : List Sp) (ks : List Key) (w : World) (hg : w.cell? ⟨g, 0, none⟩ = some vs) (hs : SpansIn w vs ss) (hm : ss.length ≤ 1000000) (hk : KeysIn w v ks) (hn : ks.length ≤ 1000000) :
    Calls Try.prog 44 #[v, .func (.func 45) #[] #[.pointer (some ⟨g, 0, none⟩)]] w fun e w' => e = .returned (.bool (anyL ss ks)) ∧ Ext w w' := by
  have ci := Lib.hid (index_any g vs v ss ks w hg hs hm hk (by omega))
  clear hs hk hn hg hm
  have R := Lib.hid (firstAny_iff ss ks)
  generalize firstAny ss ks = c at ci R
  generalize anyL ss ks = r at R ⊢
  go_enter Try.func44, Try.ntmps44
  go_wp2_with fail
  refine ci.out.mono ?_
  rintro e w1 ⟨rfl, X1⟩
  clear ci
  have X1 := Lib.hid X1
  go_wp2
  go_ret
  exact ⟨by rw [← R.out]; rfl, X1.out⟩

set_option maxHeartbeats 400000 in
theorem any_of (vs v : Value) (ss : List Sp) (ks : List Key) (w : World) (hs : SpansIn w vs ss) (hm : ss.length ≤ 1000000) (hk : KeysIn w v ks) (hn : ks.length ≤ 1000000) :
    Calls Try.prog 24 #[vs, v] w fun e w' => e = .returned (.bool (anyL ss ks)) ∧ Ext w w' := by
  have X0 : Hid (Ext w (w.alloc (.cells #[vs] 22))) := (Ext.refl w).alloc _
  have ci := Lib.hid (contains_any w.heap.size vs v ss ks (w.alloc (.cells #[vs] 22)) (cellsAt_new w [vs] 22 0 vs rfl) (hs.ext X0.out) hm (hk.ext X0.out) hn)
  obtain ⟨a, c, rfl⟩ := hs.length
  clear hs hk hn hm
  go_enter Try.func24, Try.ntmps24
  go_wp2_with fail
  refine ci.out.mono ?_
  rintro e w1 ⟨rfl, X1⟩
  have X1 : Hid (Ext w w1) := X0.out.trans X1
  clear ci
  go_wp2
  go_ret
  exact ⟨rfl, X1.out⟩
end Go.Proofs.Ytfeomnkgkppdlaa
