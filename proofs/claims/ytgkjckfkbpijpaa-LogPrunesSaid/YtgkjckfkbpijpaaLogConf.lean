/- Conflicts of a log. -/
import Derived.Test.YtgkjckfkbpijpaaLogLen
set_option linter.unusedVariables false
set_option linter.unusedSimpArgs false
namespace Go.Proofs.Ytgkjckfkbpijpaa
open Go Go.RowKit Go.Sort Go.Lib
attribute [local go_sem ↓] run_size24 run_size49
attribute [local simp high] run_size24x run_size49x

/-- a slice value that reads as a list of spans -/
def SpansIn (w : World) (sl : Value) (ss : List Sp) : Prop := ∃ a cap, sl = .slice a ss.length cap ∧ (0 < ss.length → ∃ b off, a = some ⟨b, off, none⟩ ∧ RowAt spanCells K49 w b off ss)
/-- the commits' numbers rise -/
def Grows (cs : List Cm) : Prop := ∀ i j (_ : i < j) (hj : j < cs.length), (cs[i]'(by omega)).num < cs[j].num
def conf (cs : List Cm) (since : Int) (ss : List Sp) : Bool := cs.any fun c => decide (since < c.num) && ss.any fun s => hit c.ks s

theorem ret2 {a b : Bool} {n : Int} (h : a = b) : Ending.returned (.tuple #[.bool a, .int .i64 n]) = .returned (.tuple #[.bool b, .int .i64 n]) := by rw [h]
theorem conf_true {cs : List Cm} {since : Int} {ss : List Sp} {i j : Nat} (hi : i < cs.length) (hj : j < ss.length) (h1 : since < cs[i].num) (h2 : hit cs[i].ks ss[j] = true) : conf cs since ss = true := by
  unfold conf
  rw [List.any_eq_true]
  refine ⟨cs[i], List.getElem_mem hi, ?_⟩
  rw [Bool.and_eq_true, decide_eq_true_iff, List.any_eq_true]
  exact ⟨h1, ss[j], List.getElem_mem hj, h2⟩
theorem conf_false {cs : List Cm} {since : Int} {ss : List Sp} {k : Nat} (hkl : k ≤ cs.length) (hg : Grows cs) (h1 : ∀ i (_ : k ≤ i) (hi : i < cs.length), ∀ j (hj : j < ss.length), hit cs[i].ks ss[j] = false) (h2 : ∀ i (_ : i + 1 = k) (hi : i < cs.length), cs[i].num ≤ since) : conf cs since ss = false := by
  unfold conf
  rw [List.any_eq_false]
  intro c hc
  obtain ⟨i, hi, rfl⟩ := List.getElem_of_mem hc
  rw [Bool.not_eq_true, Bool.and_eq_false_iff]
  by_cases hk : k ≤ i
  · right
    rw [List.any_eq_false]
    intro s hs
    obtain ⟨j, hj, rfl⟩ := List.getElem_of_mem hs
    simp [h1 i hk hi j hj]
  · left
    rw [decide_eq_false_iff_not]
    by_cases e : i + 1 = k
    · have := h2 i e hi; omega
    · have a := h2 (k - 1) (by omega)
      by_cases hk2 : k - 1 < cs.length
      · have := hg i (k - 1) (by omega) hk2
        have := a hk2
        omega
      · omega

set_option maxHeartbeats 400000 in
theorem conf_arg (w : World) (B p : Nat) (v : Value) (cs : List Cm) (last floor since : Int) (sv : Value) (h : LogAt w B p v cs last floor) (hs : last < since) :
    Calls Try.prog 11 #[.pointer (some ⟨p, 0, none⟩), .int .i64 since, sv] w fun e w' => e = .returned (.tuple #[.bool false, .int .i64 1]) ∧ w = w' := by
  have c1 : w.cell? ⟨p, 1, none⟩ = some (.int .i64 last) := (cell_of_blk h.blk rfl).1
  clear h
  go_enter Try.func11, Try.ntmps11
  go_wp2
  go_step3
  go_wp2
  try rw [Exit.noGoto_ret]
  go_ret2
  exact ⟨rfl, rfl⟩
set_option maxHeartbeats 400000 in
theorem conf_state (w : World) (B p : Nat) (v : Value) (cs : List Cm) (last floor since : Int) (sv : Value) (h : LogAt w B p v cs last floor) (hs : ¬ last < since) (hf : since < floor) :
    Calls Try.prog 11 #[.pointer (some ⟨p, 0, none⟩), .int .i64 since, sv] w fun e w' => e = .returned (.tuple #[.bool false, .int .i64 13]) ∧ w = w' := by
  have c1 : w.cell? ⟨p, 1, none⟩ = some (.int .i64 last) := (cell_of_blk h.blk rfl).1
  have c2 : w.cell? ⟨p, 2, none⟩ = some (.int .i64 floor) := (cell_of_blk h.blk rfl).1
  clear h
  go_enter Try.func11, Try.ntmps11
  go_wp2
  go_step3
  go_wp2
  try rw [Exit.noGoto_ret]
  go_ret2
  exact ⟨rfl, rfl⟩

set_option maxHeartbeats 2000000 in
theorem conf_ok (w : World) (B p : Nat) (v : Value) (cs : List Cm) (last floor since : Int) (sv : Value) (ss : List Sp) (h : LogAt w B p v cs last floor) (hs : ¬ last < since) (hf : ¬ since < floor) (hg : Grows cs)
    (hsp : SpansIn w sv ss) (hss : ss.length ≤ 4611686018427387904) (hks : ∀ c ∈ cs, c.ks.length ≤ 4611686018427387904) :
    Calls Try.prog 11 #[.pointer (some ⟨p, 0, none⟩), .int .i64 since, sv] w fun e w' => e = .returned (.tuple #[.bool (conf cs since ss), .int .i64 0]) ∧ Ext w w' := by
  have mixed := Try.mixed
  have k1 : ¬ K24 = 0 := by decide
  have k2 : ¬ K49 = 0 := by decide
  have hn : cs.length ≤ 9223372036854775807 := by
    rcases owns_shape h.own with ⟨_, h0⟩ | ⟨g, cap, _, _, _, h1, h2⟩
    · omega
    · unfold maxLen at h2; omega
  obtain ⟨a, cap, hv⟩ := owns_len h.own
  subst hv
  obtain ⟨sa, scap, rfl, hsr⟩ := hsp
  have c0 : w.cell? ⟨p, 0, none⟩ = some (.slice a cs.length cap) := (cell_of_blk h.blk rfl).1
  have c1 : w.cell? ⟨p, 1, none⟩ = some (.int .i64 last) := (cell_of_blk h.blk rfl).1
  have c2 : w.cell? ⟨p, 2, none⟩ = some (.int .i64 floor) := (cell_of_blk h.blk rfl).1
  have H := Lib.hid h
  have HG := Lib.hid hg
  have HS := Lib.hid hsr
  have HKS := Lib.hid hks
  clear h hg hsr hks
  generalize hlen : cs.length = n at c0 hn
  have N := Lib.hid hlen
  generalize hlen2 : ss.length = m at hss
  have M := Lib.hid hlen2
  have C0 : Hid (w.cell? ⟨p, 0, none⟩ = some (.slice a n cap)) := c0
  clear hlen hlen2
  go_enter Try.func11, Try.ntmps11
  have d1 : decide (last < since) = false := by simp; omega
  have d2 : decide (since < floor) = false := by simp; omega
  go_wp2
  go_step3
  go_wp2
  go_step3
  go_wp2
  go_loopg [8, 9] n (fun kx s8 s9 wr => ∃ k : Nat, s8 = .bool false ∧ s9 = .int .i64 ((k : Int) - 1) ∧ k ≤ n ∧ k ≤ kx ∧ Aside (Ext w wr) ∧ Aside (∀ i (_ : k ≤ i) (hi : i < cs.length), ∀ j (hj : j < ss.length), hit cs[i].ks ss[j] = false))
  case atStart => exact ⟨n, rfl, by go_num, Nat.le_refl _, Nat.le_refl _, Ext.refl _, (fun i h1 h2 => absurd h2 (by have := N.out; omega) : ∀ i (_ : n ≤ i) (hi : i < cs.length), ∀ j (hj : j < ss.length), hit cs[i].ks ss[j] = false)⟩
  case round =>
    clear c0 c1 c2
    obtain ⟨k, rfl, rfl, hkn, hg, X, I⟩ := hrel
    by_cases hk0 : k = 0
    · subst hk0
      have R : Hid (conf cs since ss = false) := conf_false (k := 0) (Nat.zero_le _) HG.out (fun i _ hi j hj => I.out i (Nat.zero_le _) hi j hj) (fun i h _ => absurd h (by omega))
      go_wp2
      try rw [Exit.noGoto_ret]
      go_ret2
      exact ⟨ret2 R.out.symm, X.out⟩
    · obtain ⟨i, rfl⟩ : ∃ i, k = i + 1 := ⟨k - 1, by omega⟩
      have e1 : ((i + 1 : Nat) : Int) - 1 = (i : Int) := by omega
      rw [e1]
      clear e1
      have hil : i < cs.length := by have := N.out; omega
      rcases owns_shape H.out.own with ⟨_, h0⟩ | ⟨g, cap', hv, _⟩
      · omega
      simp only [Value.slice.injEq, true_and] at hv
      obtain ⟨rfl, -⟩ := hv
      have c0 : wr.cell? ⟨p, 0, none⟩ = some (.slice (some ⟨g, 0, none⟩) n cap) := X.out.cell C0.out
      have q1 : wr.cell? ⟨g, i * 2, none⟩ = some (.int .i64 cs[i].num) := X.out.cell (H.out.cmCell i hil).1
      obtain ⟨num, hnum⟩ : ∃ num, num = cs[i].num := ⟨_, rfl⟩
      rw [← hnum] at q1
      have NU := Lib.hid hnum
      clear hnum
      by_cases hsn : since < num
      · have q2 : wr.cell? ⟨g, i * 2 + 1, none⟩ = some cs[i].sl := X.out.cell (H.out.cmCell i hil).2
        have KI : Hid (KeysIn w cs[i].sl cs[i].ks ∧ Rising cs[i].ks ∧ cs[i].ks.length ≤ 4611686018427387904) := ⟨owns_keysIn (H.out.keys _ (List.getElem_mem hil)).1, (H.out.keys _ (List.getElem_mem hil)).2, HKS.out _ (List.getElem_mem hil)⟩
        obtain ⟨sl, hsl⟩ : ∃ sl, sl = cs[i].sl := ⟨_, rfl⟩
        rw [← hsl] at q2 KI
        clear hsl
        have Q1 := Lib.hid q1
        have Q2 := Lib.hid q2
        have C1 := Lib.hid c0
        go_wp2
        clear q1 q2 c0
        obtain ⟨wo, rfl⟩ : ∃ wo : World, wo = wr := ⟨_, rfl⟩
        go_loopg [8, 50] m (fun ky s8 s50 wr => ∃ j : Nat, s8 = .bool false ∧ s50 = .int .i64 j ∧ j ≤ m ∧ m - j ≤ ky ∧ Aside (Ext wo wr) ∧ Aside (∀ t (_ : t < j) (ht : t < ss.length), hit cs[i].ks ss[t] = false))
        case atStart => exact ⟨0, rfl, rfl, Nat.zero_le _, by omega, Ext.refl _, (fun t h => absurd h (by omega) : ∀ t (_ : t < 0) (ht : t < ss.length), hit cs[i].ks ss[t] = false)⟩
        case round =>
          obtain ⟨j, rfl, rfl, hjm, hgj, Y, J⟩ := hrel
          by_cases hjl : j < m
          · have hjs : j < ss.length := by have := M.out; omega
            obtain ⟨sb, so, hsa, hrow⟩ := HS.out (by omega)
            subst hsa
            obtain ⟨s, hs'⟩ : ∃ s, s = ss[j] := ⟨_, rfl⟩
            have S1 : CellsAt w sb (so + j * K49) (spanCells s) := by rw [hs']; exact hrow j hjs
            have SS := Lib.hid hs'
            clear hs' hrow
            have l1 : Sem.run Try.prog (loadCellsFrom ⟨sb, so + j * K49, none⟩ 0 K49 #[]) wr = .ok (spanCells s).toArray wr := ((X.out.trans Y.out).cells S1).load _ K49 (spanCells_length _)
            have st := store_whole Try.prog (spanCells s) (spanCells_one s) wr
            have sl1 : (spanCells s).length = 49 := spanCells_length s
            have sl2 : ¬ (spanCells s).length ≠ K49 := by rw [sl1]; decide
            clear S1
            go_wp2
            have B1 : Hid (CellsAt (wr.alloc (.cells (spanCells s).toArray 26)) wr.heap.size 0 (spanCells s)) := cellsAt_new wr (spanCells s) 26
            have Y1 : Hid (Ext wo (wr.alloc (.cells (spanCells s).toArray 26))) := Y.out.alloc _
            clear l1 st sl1 sl2
            generalize wr.alloc (.cells (spanCells s).toArray 26) = w1 at B1 Y1 ⊢
            have f0 : ∀ n' os, (grow (w1.drewN n') os).cell? ⟨p, 0, none⟩ = some (.slice (some ⟨g, 0, none⟩) n cap) := fun n' os => (Y1.out.grow n' os).cell C1.out
            have f1 : ∀ n' os, (grow (w1.drewN n') os).cell? ⟨g, i * 2, none⟩ = some (.int .i64 num) := fun n' os => (Y1.out.grow n' os).cell Q1.out
            have f2 : ∀ n' os, (grow (w1.drewN n') os).cell? ⟨g, i * 2 + 1, none⟩ = some sl := fun n' os => (Y1.out.grow n' os).cell Q2.out
            have f3 : ∀ n' os, Sem.run Try.prog (loadCellsFrom ⟨wr.heap.size, 0, none⟩ 0 K49 #[]) (grow (w1.drewN n') os) = .ok (spanCells s).toArray (grow (w1.drewN n') os) := fun n' os => (B1.out.grow n' os).load _ K49 (spanCells_length _)
            have wrote := fun n os => Calls.grown_ext (wrote_any num sl cs[i].ks s (grow (w1.drewN n) os) KI.out.2.2 (KI.out.1.ext ((X.out.trans Y1.out).grow n os)) KI.out.2.1)
            have z1 : (i : Int) < (n : Int) := by omega
            have z2 : i < n := by omega
            by_cases ht : hit cs[i].ks s = true
            · have R : Hid (conf cs since ss = true) := conf_true hil hjs (by rw [← NU.out]; exact hsn) (by rw [← SS.out]; exact ht)
              rw [ht] at wrote
              have W := Lib.hid wrote
              clear ht wrote
              go_quiet_grown ((go_at_call 21; exact W.out _ _))
              go_wp2
              try rw [Exit.noGoto_ret]
              go_ret2
              exact ⟨ret2 R.out.symm, (X.out.trans Y1.out).grow nq osq⟩
            · have ht : hit cs[i].ks s = false := by simpa using ht
              have J2 : Aside (∀ t (_ : t < j + 1) (ht : t < ss.length), hit cs[i].ks ss[t] = false) := fun t h h' => by
                by_cases e : t = j
                · subst e; rw [← SS.out]; exact ht
                · exact J.out t (by omega) h'
              rw [ht] at wrote
              have W := Lib.hid wrote
              clear ht wrote
              go_quiet_grown ((go_at_call 21; exact W.out _ _))
              go_wp2
              go_roundg (m - (j + 1))
              case measure => omega
              case rel => exact ⟨j + 1, rfl, by go_num, by omega, Nat.le_refl _, Y1.out.grow nq osq, J2⟩
          · have I2 : Aside (∀ i' (_ : i ≤ i') (hi : i' < cs.length), ∀ j (hj : j < ss.length), hit cs[i'].ks ss[j] = false) := fun i' h hi j' hj' => by
              by_cases e : i' = i
              · subst e; exact J.out j' (by have := M.out; omega) hj'
              · exact I.out i' (by omega) hi j' hj'
            go_wp2
            go_roundg i
            case measure => omega
            case rel => exact ⟨i, rfl, by go_num, by omega, Nat.le_refl _, X.out.trans Y.out, I2⟩
      · have R : Hid (conf cs since ss = false) := by
          refine conf_false (k := i + 1) (by omega) HG.out (fun i' h hi j hj => I.out i' h hi j hj) ?_
          intro i' h hi
          have e : i' = i := by omega
          subst e
          rw [← NU.out]; omega
        go_wp2
        try rw [Exit.noGoto_ret]
        go_ret2
        exact ⟨ret2 R.out.symm, X.out⟩
end Go.Proofs.Ytgkjckfkbpijpaa
