/- What Prune calls: its closure, the search among the commits, the clone of the commits that stay. -/
import Derived.Test.YtgkjckfkbpijpaaLogAdd
set_option linter.unusedVariables false
set_option linter.unusedSimpArgs false
namespace Go.Proofs.Ytgkjckfkbpijpaa
open Go Go.RowKit Go.Sort Go.Lib

set_option maxHeartbeats 400000 in
theorem after_yes (num oldest : Int) (sl : Value) (w : World) (h : oldest < num) : Calls Try.prog 23 #[.agg #[.int .i64 num, sl], .int .i64 oldest] w fun e w' => e = .returned (.int .i64 1) ∧ Ext w w' := by
  have E0 : Hid (Ext w (w.alloc (.cells #[.int .i64 num, sl] 51))) := (Ext.refl w).alloc _
  go_enter Try.func23, Try.ntmps23
  go_wp2
  go_ret
  exact ⟨rfl, E0.out⟩
set_option maxHeartbeats 400000 in
theorem after_no (num oldest : Int) (sl : Value) (w : World) (h : ¬ oldest < num) : Calls Try.prog 23 #[.agg #[.int .i64 num, sl], .int .i64 oldest] w fun e w' => e = .returned (.int .i64 (-1)) ∧ Ext w w' := by
  have E0 : Hid (Ext w (w.alloc (.cells #[.int .i64 num, sl] 51))) := (Ext.refl w).alloc _
  go_enter Try.func23, Try.ntmps23
  go_wp2
  go_ret
  exact ⟨rfl, E0.out⟩

/-- how many commits stand up to a number -/
def UpTo (cs : List Cm) (oldest : Int) (m : Nat) : Prop := m ≤ cs.length ∧ (∀ i (_ : i < m) (h : i < cs.length), cs[i].num ≤ oldest) ∧ (∀ i (_ : m ≤ i) (h : i < cs.length), oldest < cs[i].num)

set_option maxHeartbeats 1000000 in
theorem searchC_some (w : World) (g cap : Nat) (cs : List Cm) (oldest : Int) (hn : 0 < cs.length) (hb : cs.length ≤ 4611686018427387904) (hg : Grows cs)
    (hc : ∀ i (h : i < cs.length), w.cell? ⟨g, i * 2, none⟩ = some (.int .i64 cs[i].num) ∧ w.cell? ⟨g, i * 2 + 1, none⟩ = some cs[i].sl) :
    Calls Try.prog 22 #[.slice (some ⟨g, 0, none⟩) cs.length cap, .int .i64 oldest, .func (.func 23) #[] #[]] w fun e w' =>
      ∃ p : Nat × Bool, e = .returned (.tuple #[.int .i64 p.1, .bool p.2]) ∧ UpTo cs oldest p.1 ∧ Ext w w' := by
  have mixed := Try.mixed
  have HG := Lib.hid hg
  have HC := Lib.hid hc
  clear hg hc
  generalize hlen : cs.length = n at hn hb ⊢
  have HN := Lib.hid hlen
  clear hlen
  go_enter Try.func22, Try.ntmps22
  go_wp2
  go_loopg [9, 10] n (fun kx s9 s10 wr => ∃ lo hi : Nat, s9 = .int .i64 lo ∧ s10 = .int .i64 hi ∧ lo ≤ hi ∧ hi ≤ n ∧ hi - lo ≤ kx ∧ Aside (Ext w wr) ∧
    Aside ((∀ i (_ : i < lo) (h : i < cs.length), cs[i].num ≤ oldest) ∧ (∀ i (_ : hi ≤ i) (h : i < cs.length), oldest < cs[i].num)))
  case atStart => exact ⟨0, n, rfl, rfl, Nat.zero_le _, Nat.le_refl _, by omega, Ext.refl _, (⟨fun i h => absurd h (by omega), fun i h1 h2 => by have := HN.out; omega⟩ : (∀ i (_ : i < 0) (h : i < cs.length), cs[i].num ≤ oldest) ∧ (∀ i (_ : n ≤ i) (h : i < cs.length), oldest < cs[i].num))⟩
  case round =>
    obtain ⟨lo, hi, rfl, rfl, hlh, hin, hgk, X, I⟩ := hrel
    by_cases hlt : lo < hi
    · have hm : (lo + hi) / 2 < cs.length := by have := HN.out; omega
      obtain ⟨num, hnum⟩ : ∃ num, num = cs[(lo + hi) / 2].num := ⟨_, rfl⟩
      obtain ⟨sl, hsl⟩ : ∃ sl, sl = cs[(lo + hi) / 2].sl := ⟨_, rfl⟩
      have q1 : wr.cell? ⟨g, (lo + hi) / 2 * 2, none⟩ = some (.int .i64 num) := by rw [hnum]; exact X.out.cell (HC.out _ hm).1
      have q2 : wr.cell? ⟨g, (lo + hi) / 2 * 2 + 1, none⟩ = some sl := by rw [hsl]; exact X.out.cell (HC.out _ hm).2
      have Y : Aside (num = cs[(lo + hi) / 2].num) := hnum
      clear hnum hsl
      have z1 : (0 : Int) ≤ ((lo : Int) + (hi : Int)) / 2 := by omega
      have z2 : ((lo : Int) + (hi : Int)) / 2 < (n : Int) := by omega
      have z3 : (((lo : Int) + (hi : Int)) / 2).toNat = (lo + hi) / 2 := by omega
      by_cases hyx : oldest < num
      · have I2 : Aside ((∀ i (_ : i < lo) (h : i < cs.length), cs[i].num ≤ oldest) ∧ (∀ i (_ : (lo + hi) / 2 ≤ i) (h : i < cs.length), oldest < cs[i].num)) :=
          ⟨I.out.1, fun i h1 h2 => by
            by_cases e : i = (lo + hi) / 2
            · subst e; rw [← Y.out]; exact hyx
            · have := HG.out ((lo + hi) / 2) i (by omega) h2
              rw [← Y.out] at this
              omega⟩
        have cmp := after_yes num oldest sl wr hyx
        have CMP := Lib.hid cmp
        clear cmp
        go_wp2_with (go_at_call 23; refine CMP.out.mono ?_; rintro e w' ⟨rfl, Z⟩)
        go_roundg ((lo + hi) / 2 - lo)
        case measure => omega
        case rel => exact ⟨lo, (lo + hi) / 2, rfl, by rw [show ((lo : Int) + (hi : Int)) / 2 = (((lo + hi) / 2 : Nat) : Int) by omega], by omega, by omega, Nat.le_refl _, X.out.trans Z, I2⟩
      · have I2 : Aside ((∀ i (_ : i < (lo + hi) / 2 + 1) (h : i < cs.length), cs[i].num ≤ oldest) ∧ (∀ i (_ : hi ≤ i) (h : i < cs.length), oldest < cs[i].num)) :=
          ⟨fun i h1 h2 => by
            by_cases e : i = (lo + hi) / 2
            · subst e; rw [← Y.out]; omega
            · have := HG.out i ((lo + hi) / 2) (by omega) hm
              rw [← Y.out] at this
              omega, I.out.2⟩
        have cmp := after_no num oldest sl wr hyx
        have CMP := Lib.hid cmp
        clear cmp
        go_wp2_with (go_at_call 23; refine CMP.out.mono ?_; rintro e w' ⟨rfl, Z⟩)
        go_roundg (hi - ((lo + hi) / 2 + 1))
        case measure => omega
        case rel => exact ⟨(lo + hi) / 2 + 1, hi, by rw [show ((lo : Int) + (hi : Int)) / 2 + 1 = (((lo + hi) / 2 + 1 : Nat) : Int) by omega], rfl, by omega, hin, Nat.le_refl _, X.out.trans Z, I2⟩
    · obtain rfl : hi = lo := by omega
      have U : Aside (UpTo cs oldest hi) := ⟨by have := HN.out; omega, fun i h1 h2 => I.out.1 i h1 h2, fun i h1 h2 => I.out.2 i h1 h2⟩
      clear I
      by_cases hn2 : hi < n
      · have hm : hi < cs.length := by have := HN.out; omega
        obtain ⟨num, hnum⟩ : ∃ num, num = cs[hi].num := ⟨_, rfl⟩
        obtain ⟨sl, hsl⟩ : ∃ sl, sl = cs[hi].sl := ⟨_, rfl⟩
        have q1 : wr.cell? ⟨g, hi * 2, none⟩ = some (.int .i64 num) := by rw [hnum]; exact X.out.cell (HC.out _ hm).1
        have q2 : wr.cell? ⟨g, hi * 2 + 1, none⟩ = some sl := by rw [hsl]; exact X.out.cell (HC.out _ hm).2
        have cmp : Calls Try.prog 23 #[.agg #[.int .i64 num, sl], .int .i64 oldest] wr fun e w' => e = .returned (.int .i64 1) ∧ Ext wr w' := after_yes num oldest sl wr (by rw [hnum]; exact U.out.2.2 hi (Nat.le_refl _) hm)
        have CMP := Lib.hid cmp
        clear cmp hnum hsl
        go_wp2_with (go_at_call 23; refine CMP.out.mono ?_; rintro e w' ⟨rfl, Z⟩)
        go_ret2
        exact ⟨(hi, _), rfl, U.out, X.out.trans Z⟩
      · have hd : decide ((hi : Int) < (n : Int)) = false := by simp; omega
        go_wp2
        go_ret2
        exact ⟨(hi, _), rfl, U.out, X.out⟩

set_option maxHeartbeats 400000 in
theorem searchC_none (w : World) (a : Option Addr) (cap : Nat) (oldest : Int) :
    Calls Try.prog 22 #[.slice a 0 cap, .int .i64 oldest, .func (.func 23) #[] #[]] w fun e w' =>
      ∃ p : Nat × Bool, e = .returned (.tuple #[.int .i64 p.1, .bool p.2]) ∧ UpTo [] oldest p.1 ∧ Ext w w' := by
  go_enter Try.func22, Try.ntmps22
  go_wp2
  refine wp_loop_rounds 1 ?_
  rw [rounds_succ]
  go_wp2
  go_ret2
  exact ⟨(0, _), rfl, ⟨Nat.le_refl _, fun i h => absurd h (by omega), fun i h1 h2 => absurd h2 (by simp)⟩, Ext.refl _⟩

set_option maxHeartbeats 400000 in
theorem cloneC_nil (cap : Nat) (w : World) : Calls Try.prog 24 #[.slice none 0 cap] w fun e w' => e = .returned (.slice none 0 0) ∧ w = w' := by
  have hq := fun w => eql_nil (P := Try.prog) w 44 51 none 0 cap Try.underlying44
  go_enter Try.func24, Try.ntmps24
  go_wp2
  go_ret
  exact ⟨rfl, rfl⟩

set_option maxHeartbeats 400000 in
theorem cloneC_some (a : Addr) (cap : Nat) (cs : List Cm) (w : World) (hb : cs.length * 32 ≤ 140737488355328) (hc : CellsAt w a.block a.off (flat cmCells cs)) (hs : 0 < cs.length → a.spot = none) (h1 : ∀ c ∈ cs, c.sl.oneCell' = true) :
    Calls Try.prog 24 #[.slice (some a) cs.length cap] w fun e w' => ∃ v', e = .returned v' ∧ w'.ownsRow w.heap.size 51 2 v' cs.length (flat cmCells cs) ∧ Chg (fun _ => False) w w' := by
  obtain ⟨i0, hi, hz0, hz1, hz2⟩ := info_parts info51
  have hq := fun w => eql_nil (P := Try.prog) w 44 51 (some a) cs.length cap Try.underlying44
  have N3 : Hid (∀ u ∈ flat cmCells cs, u.oneCell' = true) := fun u hu => by
    simp only [flat, List.mem_flatMap, cmCells, List.mem_cons, List.not_mem_nil, or_false] at hu
    obtain ⟨c, hc, rfl | rfl⟩ := hu
    · rfl
    · exact h1 c hc
  go_enter Try.func24, Try.ntmps24
  have own0 := World.ownsRow_made (e := 51) (size := 2) (base := w.heap.size) w #[] 0 (Nat.le_refl _) (Nat.zero_le _) (by simp)
  have N1 : Hid ((flat cmCells cs).length = cs.length * 2) := flat_length cmCells_length cs
  have N2 : Hid (∀ j u, (flat cmCells cs)[j]? = some u → (w.alloc (.cells #[] 51)).cell? (a.add j) = some u) := fun j u hj => by
    have hp : 0 < cs.length := by
      have := (List.getElem?_eq_some_iff.1 hj).1
      rw [N1.out] at this; omega
    have e : a.add j = ⟨a.block, a.off + j, none⟩ := by
      have := hs hp
      obtain ⟨ab, ao, asp⟩ := a
      simp only at this; subst this
      rw [Addr.add_lit]
    rw [e]; exact hc.alloc _ j u hj
  have HB : Hid (cs.length * 32 ≤ 140737488355328) := hb
  clear hc hs hb h1
  go_wp2_with (at_builtin; refine wpList_append_own _ rfl _ _ 44 rfl w.heap.size 51 i0 (.agg #[.int .i64 0, .slice none 0 0]) 2 32 Try.underlying44 hi hz0 hz1 hz2 rfl (by decide) _ _ _ rfl own0 a cs.length cap (flat cmCells cs) rfl N1.out N2.out N3.out ?c1 ?c2 ?c3 ?_)
  case c1 => have := HB.out; unfold maxLen; omega
  case c2 => have := HB.out; omega
  case c3 => simp
  intro v' w1 hown hgr _
  go_wp2
  go_ret
  exact ⟨_, rfl, hown, (chg_alloc w _ _).trans hgr.chg (fun i hi h => by simp only [Value.ownBlock, Option.some.injEq] at h; omega)⟩
end Go.Proofs.Ytgkjckfkbpijpaa
