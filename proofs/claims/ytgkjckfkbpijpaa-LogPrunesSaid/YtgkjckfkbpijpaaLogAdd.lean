/- Add of a log. -/
import Derived.Test.YtgkjckfkbpijpaaLogConf
set_option linter.unusedVariables false
set_option linter.unusedSimpArgs false
namespace Go.Proofs.Ytgkjckfkbpijpaa
open Go Go.RowKit Go.Sort Go.Lib
attribute [local go_sem ↓] run_size24 run_size49
attribute [local simp high] run_size24x run_size49x

theorem info51 : (Try.prog.info? 51).map (fun i => (i.zero, i.size, i.bytes)) = some (some (.agg #[.int .i64 0, .slice none 0 0]), 2, 32) := by kernel_rfl

set_option maxHeartbeats 400000 in
theorem add_arg (w : World) (B p : Nat) (v : Value) (cs : List Cm) (last floor number : Int) (kv : Value) (h : LogAt w B p v cs last floor) (hs : number ≤ last) :
    Calls Try.prog 9 #[.pointer (some ⟨p, 0, none⟩), .int .i64 number, kv] w fun e w' => e = .returned (.int .i64 1) ∧ w = w' := by
  have c1 : w.cell? ⟨p, 1, none⟩ = some (.int .i64 last) := (cell_of_blk h.blk rfl).1
  clear h
  go_enter Try.func9, Try.ntmps9
  go_wp2
  go_ret
  exact ⟨rfl, rfl⟩

/-- the sort at what Clone has made: nil, or a row of its own -/
theorem sort_own {w : World} {B : Nat} {v : Value} {ks : List Key} (h : w.ownsRow B 24 24 v ks.length (flat keyCells ks)) (hn : ks.length < 4611686018427387904) :
    Calls Try.prog 18 #[v, .func (.func 19) #[] #[]] w fun e w' => e = .returned (.tuple #[]) ∧ ∃ ks', ks'.Perm ks ∧ Rising ks' ∧ w'.ownsRow B 24 24 v ks'.length (flat keyCells ks') ∧ Chg (fun i => v.ownBlock = some i) w w' := by
  rcases owns_shape h with ⟨rfl, h0⟩ | ⟨g, cap, rfl, _, hg, _, _⟩
  · have e := List.eq_nil_of_length_eq_zero h0
    subst e
    have hc := AnyF.slices_SortFunc_none Try.sortK none 0 (.func (.func 19) #[] #[]) w
    change Calls Try.prog 18 _ _ _ at hc
    refine hc.mono ?_
    rintro e w' ⟨rfl, rfl⟩
    exact ⟨rfl, [], List.Perm.refl _, fun i j _ hj => absurd hj (by simp), h, Chg.refl _ _⟩
  · refine (sort_some g 0 cap ks w (owns_holds keyCells_length h) hg hn).mono ?_
    rintro e w' ⟨rfl, d', n, os, hp, hs, rfl⟩
    have hl : d'.toList.length = ks.length := by simpa using hp.1
    refine ⟨rfl, d'.toList, ?_, ?_, ?_, ?_⟩
    · have := hp.2.2
      have e1 : (d'.extract 0 ks.length) = d' := by rw [← hl]; simp
      have e2 : (ks.toArray.extract 0 ks.length) = ks.toArray := by simp
      rw [e1, e2] at this
      simpa using this
    · intro i j hij hj
      have hj' : j < ks.length := by omega
      have := hs i j (Nat.zero_le _) hij hj'
      rw [getElem!_pos d' j (by simpa using hj), getElem!_pos d' i (by simp at hj; omega)] at this
      simpa using this
    · rw [hl]
      have := sort_owns (n := n) (os := os) keyCells_length h hl
      simpa using this
    · exact (sort_chg keyCells 24 w g n d' os).mono fun i _ e => by rw [e]; rfl

set_option maxHeartbeats 1000000 in
theorem add_ok (w : World) (B p : Nat) (v : Value) (cs : List Cm) (last floor number : Int) (kv : Value) (ks : List Key) (h : LogAt w B p v cs last floor) (hs : ¬ number ≤ last) (hk : KeysIn w kv ks) (hn : ks.length * 24 ≤ 140737488355328) (hc : (cs.length + 1) * 32 ≤ 140737488355328) :
    Calls Try.prog 9 #[.pointer (some ⟨p, 0, none⟩), .int .i64 number, kv] w fun e w' => e = .returned (.int .i64 0) ∧ ∃ v' sl ks', ks'.Perm ks ∧ LogAt w' B p v' (cs ++ [⟨number, sl, ks'⟩]) number floor ∧ Chg (fun i => i = p ∨ v.ownBlock = some i) w w' ∧ (v'.ownBlock = v.ownBlock ∨ ∃ g, v'.ownBlock = some g ∧ w.heap.size ≤ g) := by
  obtain ⟨i0, hi, hz0, hz1, hz2⟩ := info_parts info51
  have clone : Calls Try.prog 17 #[kv] w fun e w' => ∃ v', e = .returned v' ∧ w'.ownsRow w.heap.size 24 24 v' ks.length (flat keyCells ks) ∧ Chg (fun _ => False) w w' := by
    obtain ⟨a, cap, rfl, hk⟩ := hk
    by_cases h0 : 0 < ks.length
    · obtain ⟨b, off, rfl, hr⟩ := hk h0
      exact clone_some ⟨b, off, none⟩ cap ks w (by omega) (RowAt.flat (k := 24) keyCells_length hr) (fun _ => rfl)
    · have e := List.eq_nil_of_length_eq_zero (Nat.eq_zero_of_not_pos h0)
      subst e
      cases a with
      | none => exact (clone_nil cap w).mono fun e w' ⟨he, hw⟩ => ⟨_, he, by rw [← hw]; exact World.ownsRow_nil _ _ _ _, by rw [← hw]; exact Chg.refl _ _⟩
      | some a => exact clone_some a cap [] w (by simp) (fun j v hj => by simp [flat] at hj) (fun h => absurd h (by simp))
  have c1 : w.cell? ⟨p, 1, none⟩ = some (.int .i64 last) := (cell_of_blk h.blk rfl).1
  have H := Lib.hid h
  have HN : Hid (ks.length * 24 ≤ 140737488355328) := hn
  have HC : Hid ((cs.length + 1) * 32 ≤ 140737488355328) := hc
  clear h hk hn hc
  go_enter Try.func9, Try.ntmps9
  go_wp2_with fail
  refine clone.mono ?_
  rintro e w1 ⟨sl, rfl, O1, X1⟩
  obtain ⟨sa, sc, rfl⟩ := owns_len O1
  obtain ⟨m, hm⟩ : ∃ m, m = ks.length := ⟨_, rfl⟩
  rw [← hm]
  have O1 : Hid (w1.ownsRow w.heap.size 24 24 (.slice sa m sc) ks.length (flat keyCells ks)) := by rw [hm]; exact O1
  have HM := Lib.hid hm
  clear hm
  have X1 := Lib.hid X1
  go_wp2_with fail
  refine (sort_own O1.out (by have := HN.out; omega)).mono ?_
  rintro e w2 ⟨rfl, ks', hp, hr, O2, X2⟩
  have hX : Chg (fun _ => False) w w2 := X1.out.trans X2 (fun i hi h => by have := (O1.out.lt i h).1; omega)
  have h2 := H.out.kept hX (fun _ _ h => h)
  have c2 : w2.cell? ⟨p, 0, none⟩ = some v := (cell_of_blk h2.blk rfl).1
  have c3 : w2.frozen? ⟨p, 0, none⟩ = false := frozen_of_row _ _ _ _ _ h2.blk
  have G := Lib.hid h2
  have HX := Lib.hid hX
  have HP := Lib.hid hp
  have HR := Lib.hid hr
  have O2 := Lib.hid O2
  clear h2 hX hp hr X2 c1
  have own0 := (G.out.own.alloc (.cells #[.int .i64 number, .slice sa m sc] 51))
  have N2 : Hid (∀ j u, ([Value.int .i64 number, .slice sa m sc] : List Value)[j]? = some u → (w2.alloc (.cells #[.int .i64 number, .slice sa m sc] 51)).cell? ((⟨w2.heap.size, 0, none⟩ : Addr).add j) = some u) := fun j u hj => by
    rw [Addr.add_lit]; exact cellsAt_new w2 [.int .i64 number, .slice sa m sc] 51 j u hj
  have N3 : Hid (∀ u ∈ ([Value.int .i64 number, .slice sa m sc] : List Value), u.oneCell' = true) := fun u hu => by
    simp only [List.mem_cons, List.not_mem_nil, or_false] at hu
    rcases hu with rfl | rfl
    · rfl
    · rfl
  have OWN := Lib.hid own0
  clear own0
  go_wp2_with (at_builtin; refine wpList_append_own2 rfl _ _ 44 rfl B 51 i0 (.agg #[.int .i64 0, .slice none 0 0]) 2 32 Try.underlying44 hi hz0 hz1 hz2 rfl (by decide) _ _ _ rfl OWN.out ⟨w2.heap.size, 0, none⟩ 1 1 [.int .i64 number, .slice sa m sc] rfl rfl N2.out N3.out (by decide) ?c1 ?c2 ?c3 ?_)
  case c1 => have := HC.out; unfold maxLen; omega
  case c2 => have := HC.out; omega
  case c3 => have := G.out.low; have := G.out.lt; simp; omega
  intro v' w3 hown hgr hblk
  have Y : Chg (fun i => v.ownBlock = some i) w2 w3 := (chg_alloc w2 _ _).trans hgr.chg (fun i hi h => h)
  have b3 : w3.heap[p]? = some (.cells #[v, .int .i64 last, .int .i64 floor] 46 (0, 0)) := (Y.block p G.out.lt G.out.rowBlock).trans G.out.blk
  have d0 : w3.cell? ⟨p, 0, none⟩ = some v := (cell_of_blk b3 rfl).1
  have d1 : w3.cell? ⟨p, 1, none⟩ = some (.int .i64 last) := (cell_of_blk b3 rfl).1
  have d2 : w3.frozen? ⟨p, 0, none⟩ = false := frozen_of_row _ _ _ _ _ b3
  have d3 : w3.frozen? ⟨p, 1, none⟩ = false := frozen_of_row _ _ _ _ _ b3
  obtain ⟨a', c', rfl⟩ := owns_len hown
  have B3 := Lib.hid b3
  have YY := Lib.hid Y
  have HO := Lib.hid hown
  have HB := Lib.hid hblk
  clear b3 Y hown hgr hblk c2 c3
  go_wp2
  go_ret
  refine ⟨rfl, .slice a' (cs.length + 1) c', .slice sa m sc, ks', HP.out, ?_, ?_, ?_⟩
  · have hvp : (Value.slice a' (cs.length + 1) c').ownBlock ≠ some p := by
      rcases owns_apart_block HO.out B3.out (by decide) with e | e
      · rw [e]; simp
      · exact e
    have Z : Chg (fun i => i = p) w3 ((w3.setCell ⟨p, 0, none⟩ (.slice a' (cs.length + 1) c')).setCell ⟨p, 1, none⟩ (.int .i64 number)) := (chg_setCell w3 ⟨p, 0, none⟩ _).trans (chg_setCell _ ⟨p, 1, none⟩ _) (fun i _ h => h)
    refine ⟨?_, G.out.low, ?_, ?_⟩
    · exact heap_setCell_same _ p 1 _ 46 _ (heap_setCell_same _ p 0 _ 46 _ B3.out)
    · have := Z.owns HO.out (fun i hi h => by rw [h] at hi; exact hvp hi)
      rw [List.length_append, flat_append]
      exact this
    · intro c hc
      rw [List.mem_append, List.mem_singleton] at hc
      rcases hc with hc | rfl
      · have k1 := G.out.keyBlock hc
        refine ⟨Z.owns (YY.out.owns (G.out.keys c hc).1 (fun i hi h => (k1 i hi).2 h)) (fun i hi h => (k1 i hi).1 h), (G.out.keys c hc).2⟩
      · refine ⟨?_, HR.out⟩
        have hl : ks'.length = m := by rw [HP.out.length_eq, HM.out]
        have o3 : w3.ownsRow w.heap.size 24 24 (.slice sa m sc) ks'.length (flat keyCells ks') := YY.out.owns O2.out (fun i hi h => by
          rcases owns_apart O2.out G.out.own (by decide) with e | e
          · rw [e] at hi; exact absurd hi (by simp)
          · exact e (hi.trans h.symm))
        have o4 := Z.owns o3 (fun i hi h => by
          rcases owns_apart_block o3 B3.out (by decide) with e | e
          · rw [e] at hi; exact absurd hi (by simp)
          · rw [h] at hi; exact e hi)
        exact owns_mono o4 (by have := H.out.low; have := H.out.lt; omega)
  · have Z : Chg (fun i => i = p) w3 ((w3.setCell ⟨p, 0, none⟩ (.slice a' (cs.length + 1) c')).setCell ⟨p, 1, none⟩ (.int .i64 number)) := (chg_setCell w3 ⟨p, 0, none⟩ _).trans (chg_setCell _ ⟨p, 1, none⟩ _) (fun i _ h => h)
    exact ((HX.out.mono (T := fun i => i = p ∨ v.ownBlock = some i) (fun i _ h => h.elim)).trans YY.out (fun i _ h => .inr h)).trans Z (fun i _ h => .inl h)
  · rcases HB.out with h | ⟨g, hg, hle⟩
    · exact .inl h
    · exact .inr ⟨g, hg, by have := HX.out.size; omega⟩
end Go.Proofs.Ytgkjckfkbpijpaa
