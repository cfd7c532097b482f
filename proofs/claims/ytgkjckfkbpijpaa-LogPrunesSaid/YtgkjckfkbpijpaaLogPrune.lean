/- Prune of a log. -/
import Derived.Test.YtgkjckfkbpijpaaLogPruneA
import Derived.Deep.RegionHeld3
import Derived.Deep.RegionWith
import Derived.BigRegion
set_option linter.unusedVariables false
set_option linter.unusedSimpArgs false
namespace Go.Proofs.Ytgkjckfkbpijpaa
open Go Go.RowKit Go.Sort Go.Lib

theorem searchC_any (w : World) (B p : Nat) (v : Value) (cs : List Cm) (last floor oldest : Int) (h : LogAt w B p v cs last floor) (hb : cs.length ≤ 4611686018427387904) (hg : Grows cs) :
    Calls Try.prog 22 #[v, .int .i64 oldest, .func (.func 23) #[] #[]] w fun e w' =>
      ∃ q : Nat × Bool, e = .returned (.tuple #[.int .i64 q.1, .bool q.2]) ∧ UpTo cs oldest q.1 ∧ Ext w w' := by
  rcases owns_shape h.own with ⟨rfl, h0⟩ | ⟨g, cap, rfl, _⟩
  · have e := List.eq_nil_of_length_eq_zero h0
    subst e
    exact searchC_none w none 0 oldest
  · by_cases hn : 0 < cs.length
    · exact searchC_some w g cap cs oldest hn hb hg (fun i hi => h.cmCell i hi)
    · have e := List.eq_nil_of_length_eq_zero (Nat.eq_zero_of_not_pos hn)
      subst e
      exact searchC_none w _ _ oldest

/-- l[m:len(l):len(l)] -/
def cutV (v : Value) (m n : Nat) : Value :=
  match v with
  | .slice a _ _ => .slice (if n = m then a else a.map (·.add (m * 2))) (n - m) (n - m)
  | v => v

theorem cut_run {v : Value} {m n : Nat} {a : Option Addr} {cap : Nat} (hv : v = .slice a n cap) (hm : m ≤ n) (hc : n ≤ cap) (W : World) :
    (Instr.sliceAt 44 v (some (.int .i64 m)) (some (.int .i64 n)) (some (.int .i64 n))).run Try.prog W = .ok (cutV v m n) W := by
  subst hv
  simp [Instr.sliceAt, run_underlying Try.underlying44, Instr.slice, Instr.sliceBounds, Instr.sliceBound, asIntOf, cutV, hm, hc]

theorem clone_cut {w : World} {B p : Nat} {v : Value} {cs : List Cm} {last floor : Int} (h : LogAt w B p v cs last floor) (hb : cs.length * 32 ≤ 140737488355328) (m : Nat) (hm : m ≤ cs.length) :
    Calls Try.prog 24 #[cutV v m cs.length] w fun e w' => ∃ v', e = .returned v' ∧ w'.ownsRow w.heap.size 51 2 v' (cs.drop m).length (flat cmCells (cs.drop m)) ∧ Chg (fun _ => False) w w' := by
  rcases owns_shape h.own with ⟨rfl, h0⟩ | ⟨g, cap, rfl, _⟩
  · have e := List.eq_nil_of_length_eq_zero h0
    subst e
    obtain rfl : m = 0 := by simpa using hm
    exact (cloneC_nil 0 w).mono fun e w' ⟨he, hw⟩ => ⟨_, he, by rw [← hw]; exact World.ownsRow_nil _ _ _ _, by rw [← hw]; exact Chg.refl _ _⟩
  · have hc := owns_cells h.own rfl
    have hr := rowAt_of_flat (enc := cmCells) (k := 2) cmCells_length hc
    have hd := RowAt.flat (k := 2) cmCells_length (hr.drop m)
    have h1 : ∀ c ∈ cs.drop m, c.sl.oneCell' = true := fun c hc => by
      obtain ⟨a, k, e⟩ := owns_len (h.keys c (List.mem_of_mem_drop hc)).1
      rw [e]; rfl
    have hl : (cs.drop m).length = cs.length - m := by simp
    unfold cutV
    by_cases e : cs.length = m
    · have e0 : cs.drop m = [] := by rw [List.drop_eq_nil_iff]; omega
      rw [e0]
      simp only [e, if_pos]
      have := cloneC_some ⟨g, 0, none⟩ 0 [] w (by simp) (fun j v hj => by simp [flat] at hj) (fun h => absurd h (by simp)) (by simp)
      simpa using this
    · simp only [if_neg e]
      have := cloneC_some ⟨g, 0 + m * 2, none⟩ (cs.length - m) (cs.drop m) w (by rw [hl]; omega) hd (fun _ => rfl) h1
      rw [hl] at this
      rw [hl]
      simpa [Addr.add_lit] using this

theorem prune_state {w2 w3 : World} {B p m : Nat} {v v' : Value} {cs : List Cm} {last floor mx : Int} (H2 : LogAt w2 B p v cs last floor) (O3 : w3.ownsRow w2.drew.heap.size 51 2 v' (cs.drop m).length (flat cmCells (cs.drop m)))
    (B3 : w3.heap[p]? = some (.cells #[v, .int .i64 last, .int .i64 floor] 46 (0, 0))) (X3 : Chg (fun _ => False) w2.drew w3) :
    LogAt ((w3.setCell ⟨p, 0, none⟩ v').setCell ⟨p, 2, none⟩ (.int .i64 mx)) B p v' (cs.drop m) last mx := by
  have Z : Chg (fun i => i = p) w3 ((w3.setCell ⟨p, 0, none⟩ v').setCell ⟨p, 2, none⟩ (.int .i64 mx)) := (chg_setCell w3 ⟨p, 0, none⟩ _).trans (chg_setCell _ ⟨p, 2, none⟩ _) (fun i _ h => h)
  have hvp : v'.ownBlock ≠ some p := by
    rcases owns_apart_block O3 B3 (by decide) with e | e
    · rw [e]; simp
    · exact e
  refine ⟨?_, H2.low, ?_, ?_⟩
  · exact heap_setCell_same _ p 2 _ 46 _ (heap_setCell_same _ p 0 _ 46 _ B3)
  · have := Z.owns O3 (fun i hi h => by rw [h] at hi; exact hvp hi)
    exact owns_mono this (by have := H2.low; have := H2.lt; show B ≤ w2.heap.size; omega)
  · intro c hc
    have hc' := List.mem_of_mem_drop hc
    have k1 := H2.keyBlock hc'
    have h3 : w3.ownsRow B 24 24 c.sl c.ks.length (flat keyCells c.ks) := X3.owns (H2.keys c hc').1.drew (fun _ _ h => h)
    exact ⟨Z.owns h3 (fun i hi h => (k1 i hi).1 h), (H2.keys c hc').2⟩
theorem prune_chg {w w2 w3 : World} {p : Nat} {v' : Value} {mx : Int} (X2 : Ext w w2) (X3 : Chg (fun _ => False) w2.drew w3) :
    Chg (fun i => i = p) w ((w3.setCell ⟨p, 0, none⟩ v').setCell ⟨p, 2, none⟩ (.int .i64 mx)) := by
  have Z : Chg (fun i => i = p) w3 ((w3.setCell ⟨p, 0, none⟩ v').setCell ⟨p, 2, none⟩ (.int .i64 mx)) := (chg_setCell w3 ⟨p, 0, none⟩ _).trans (chg_setCell _ ⟨p, 2, none⟩ _) (fun i _ h => h)
  exact (((X2.drew.chg (fun i => i = p))).trans X3 (fun i _ h => h.elim)).trans Z (fun i _ h => h)
theorem prune_block {w w2 w3 : World} {n : Nat} {v' : Value} {xs : List Value} (X2 : Ext w w2) (O3 : w3.ownsRow w2.drew.heap.size 51 2 v' n xs) : v'.ownBlock = none ∨ ∃ g, v'.ownBlock = some g ∧ w.heap.size ≤ g := by
  rcases owns_shape O3 with ⟨rfl, _⟩ | ⟨g, cap, rfl, hg, _⟩
  · exact .inl rfl
  · exact .inr ⟨g, rfl, Nat.le_trans X2.size hg⟩

set_option maxHeartbeats 1000000 in
theorem prune_any (w : World) (B p : Nat) (v : Value) (cs : List Cm) (last floor oldest : Int) (h : LogAt w B p v cs last floor) (hg : Grows cs) (hb : cs.length * 32 ≤ 140737488355328) :
    Calls Try.prog 12 #[.pointer (some ⟨p, 0, none⟩), .int .i64 oldest] w fun e w' => e = .returned (.tuple #[]) ∧ ∃ m v', UpTo cs (min oldest last) m ∧ LogAt w' B p v' (cs.drop m) last (max floor (min oldest last)) ∧ Chg (fun i => i = p) w w' ∧ (v'.ownBlock = none ∨ ∃ g, v'.ownBlock = some g ∧ w.heap.size ≤ g) := by
  have mixed := Try.mixed
  have c0 : w.cell? ⟨p, 0, none⟩ = some v := (cell_of_blk h.blk rfl).1
  have c1 : w.cell? ⟨p, 1, none⟩ = some (.int .i64 last) := (cell_of_blk h.blk rfl).1
  have sr := searchC_any w B p v cs last floor (min oldest last) h (by omega) hg
  have SR := Lib.hid sr
  have H := Lib.hid h
  have HB : Hid (cs.length * 32 ≤ 140737488355328) := hb
  have HG := Lib.hid hg
  clear sr h hb hg
  go_enter Try.func12, Try.ntmps12
  go_wp2_with fail
  refine SR.out.mono ?_
  rintro e w2 ⟨⟨m, fnd⟩, rfl, U, X2⟩
  have U := Lib.hid U
  have h2 := H.out.ext X2
  obtain ⟨a, cap, hv⟩ := owns_len h2.own
  have hcap : cs.length ≤ cap := by
    rcases owns_shape h2.own with ⟨h3, h4⟩ | ⟨g, c', h3, _, _, h4, _⟩
    · rw [hv] at h3; simp at h3; omega
    · rw [hv] at h3; simp at h3; omega
  have cut := cut_run hv U.out.1 hcap
  have lenv : ∀ W, (Builtin.len_ #[44] 3 #[v]).run Try.prog W = .ok (.int .i64 cs.length) W := fun W => by rw [hv, run_len_slice (h := by kernel_rfl)]; rfl
  have H2 := Lib.hid h2
  have CLD : Hid (Calls Try.prog 24 #[cutV v m cs.length] w2.drew fun e w' => ∃ v', e = .returned v' ∧ w'.ownsRow w2.drew.heap.size 51 2 v' (cs.drop m).length (flat cmCells (cs.drop m)) ∧ Chg (fun _ => False) w2.drew w') := clone_cut (H.out.ext X2.drew) HB.out m U.out.1
  have k0 : w2.cell? ⟨p, 0, none⟩ = some v := (cell_of_blk h2.blk rfl).1
  have HV := Lib.hid hv
  have X2 := Lib.hid X2
  clear h2 hv hcap c0 c1
  generalize cutV v m cs.length = V at cut CLD
  go_wp2_with fail
  go_region_with (go_at_call 24; refine CLD.out.mono ?_; rintro e w3 ⟨v', rfl, hown, hX⟩; obtain ⟨a', c', rfl⟩ := owns_len hown; have k3 := hX.cell k0 (fun h => h); have B3 := (hX.block p H2.out.lt (fun h => h)).trans H2.out.blk; have k4 : w3.frozen? ⟨p, 0, none⟩ = false := frozen_of_row _ _ _ _ _ B3; have k5 : w3.frozen? ⟨p, 2, none⟩ = false := frozen_of_row _ _ _ _ _ B3; have k6 : w3.cell? ⟨p, 2, none⟩ = some (.int .i64 floor) := (cell_of_blk B3 rfl).1; have B3 := Lib.hid B3; have O3 := Lib.hid hown; have X3 := Lib.hid hX; clear hown hX)
  all_goals
    go_wp2
    go_end0
    refine ⟨rfl, m, .slice a' (cs.drop m).length c', U.out, ?_, ?_, ?_⟩
    · have h := prune_state (mx := max floor (min oldest last)) H2.out O3.out B3.out X3.out; simp only [List.length_drop] at h ⊢; exact h
    · have h := prune_chg (p := p) (v' := .slice a' (cs.length - m) c') (mx := max floor (min oldest last)) X2.out X3.out; exact h
    · exact prune_block X2.out O3.out
end Go.Proofs.Ytgkjckfkbpijpaa
