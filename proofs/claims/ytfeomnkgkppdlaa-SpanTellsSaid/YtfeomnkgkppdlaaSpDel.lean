/- slices.DeleteFunc at a row of spans of the call's own, with the closure that tells an empty one. -/
import Derived.Test.YtfeomnkgkppdlaaSpRow
set_option linter.unusedVariables false
set_option linter.unusedSimpArgs false
namespace Go.Proofs.Ytfeomnkgkppdlaa
open Go Go.RowKit Go.Sort Go.Lib
attribute [local go_sem ↓] run_size24 run_size49 run_size25
attribute [local simp high] run_size24x run_size49x run_size25x

theorem cut_to (T E : TypeId) (hT : Try.prog.underlying T = some (.slice E)) (k : Nat) (hs : ∀ w, Sem.run Try.prog (sizeOf E) w = .ok k w) (a : Option Addr) (n c m : Nat) (hc : m ≤ c) (W : World) :
    (Instr.sliceAt T (.slice a n c) none (some (.int .i64 (m : Int))) none).run Try.prog W = .ok (.slice a m c) W := by
  cases a with
  | none => simp [Instr.sliceAt, run_underlying hT, Instr.slice, Instr.sliceBounds, Instr.sliceBound, asIntOf, hc, hs]
  | some a => simp [Instr.sliceAt, run_underlying hT, Instr.slice, Instr.sliceBounds, Instr.sliceBound, asIntOf, hc, hs, Addr.add]
theorem cut_from (T E : TypeId) (hT : Try.prog.underlying T = some (.slice E)) (k : Nat) (hs : ∀ w, Sem.run Try.prog (sizeOf E) w = .ok k w) (g o : Nat) (n c m : Nat) (hn : m ≤ n) (hc : m < c) (hnc : n ≤ c) (W : World) :
    (Instr.sliceAt T (.slice (some ⟨g, o, none⟩) n c) (some (.int .i64 (m : Int))) none none).run Try.prog W = .ok (.slice (some ⟨g, o + m * k, none⟩) (n - m) (c - m)) W := by
  have h1 : ¬ c = m := by omega
  have h2 : m ≤ c := by omega
  have h3 : ¬ c - m = 0 := by omega
  simp [Instr.sliceAt, run_underlying hT, Instr.slice, Instr.sliceBounds, Instr.sliceBound, asIntOf, hn, hc, hs, Addr.add, h1, h2, hnc, h3]

def keepS (s : Sp) : Bool := !emptyS s
theorem filter_at (ss : List Sp) (j : Nat) (hj : j < ss.length) : (ss.take (j + 1)).filter keepS = (ss.take j).filter keepS ++ (if emptyS ss[j] then [] else [ss[j]]) := by
  rw [List.take_succ_eq_append_getElem hj, List.filter_append]
  congr 1
  cases h : emptyS ss[j] <;> simp [keepS, h]
theorem filter_none (ss : List Sp) (h : firstEmpty ss = -1) : ss.filter keepS = ss := by
  unfold firstEmpty at h
  cases e : ss.findIdx? emptyS with
  | some i => rw [e] at h; simp at h
  | none =>
    rw [List.findIdx?_eq_none_iff] at e
    rw [List.filter_eq_self]
    intro x hx
    simp [keepS, e x hx]
theorem filter_some (ss : List Sp) {i : Nat} (h : firstEmpty ss = (i : Int)) : ∃ hi : i < ss.length, emptyS ss[i] = true ∧ (ss.take (i + 1)).filter keepS = ss.take i := by
  unfold firstEmpty at h
  cases e : ss.findIdx? emptyS with
  | none => rw [e] at h; simp at h
  | some k =>
    rw [e] at h
    have : k = i := by simp at h; omega
    subst this
    rw [List.findIdx?_eq_some_iff_getElem] at e
    obtain ⟨hi, h1, h2⟩ := e
    refine ⟨hi, h1, ?_⟩
    rw [filter_at ss k hi, h1, if_pos rfl, List.append_nil, List.filter_eq_self]
    intro x hx
    rw [List.mem_iff_getElem] at hx
    obtain ⟨j, hj, rfl⟩ := hx
    rw [List.length_take] at hj
    rw [List.getElem_take]
    have := h2 j (by omega)
    simp [keepS] at this ⊢
    simpa using this
theorem firstEmpty_cases (ss : List Sp) : firstEmpty ss = -1 ∨ ∃ i : Nat, firstEmpty ss = (i : Int) := by
  unfold firstEmpty
  cases ss.findIdx? emptyS with
  | none => exact .inl rfl
  | some i => exact .inr ⟨i, rfl⟩

set_option maxHeartbeats 2000000 in
set_option maxRecDepth 100000 in
theorem delete_some (g cap : Nat) (ss : List Sp) (w : World) (hs : RowB w g cap ss) (hn : ss.length ≤ 4611686018427387904) :
    Calls Try.prog 27 #[.slice (some ⟨g, 0, none⟩) ss.length cap, .func (.func 29) #[] #[]] w fun e w' => e = .returned (.slice (some ⟨g, 0, none⟩) (ss.filter keepS).length cap) ∧ RowB w' g cap (ss.filter keepS) ∧ Chg (fun i => i = g) w w' := by
  have mixed := Try.mixed
  have k1 : ¬ K24 = 0 := by decide
  have k2 : ¬ K49 = 0 := by decide
  have k4 : (49 = K49) = True := by decide
  have HS := Lib.hid hs
  have ix := Lib.hid (index_some g 0 cap ss w hs.at hn)
  have hcap := hs.cap
  clear hs
  generalize hlen : ss.length = n at hn hcap ix ⊢
  have HN := Lib.hid hlen
  clear hlen
  go_enter Try.func27, Try.ntmps27
  go_wp2_with fail
  refine ix.out.mono ?_
  rintro e w1 ⟨rfl, X1⟩
  have X1 := Lib.hid X1
  clear ix
  rcases firstEmpty_cases ss with hf | ⟨i0, hf⟩
  · have F := Lib.hid (filter_none ss hf)
    rw [hf]
    go_wp2
    go_ret
    rw [F.out, HN.out]
    exact ⟨rfl, HS.out.ext X1.out, X1.out.chg _⟩
  · obtain ⟨hi0, he0, F0⟩ := filter_some ss hf
    rw [hf]
    have hi0n : i0 < n := by have := HN.out; omega
    have HF := Lib.hid F0
    have R1 := Lib.hid (HS.out.ext X1.out)
    have hne : ¬ ((i0 : Int) = -1) := by omega
    clear F0
    go_wp2
    go_loopg [5, 6] n (fun kx s5 s6 wr => ∃ (i j : Nat) (zs : List Sp), s5 = .int .i64 i ∧ s6 = .int .i64 j ∧ i < j ∧ j ≤ n ∧ n - j ≤ kx ∧ zs.length = n ∧ Aside (RowB wr g cap zs) ∧ Aside (zs.take i = (ss.take j).filter keepS) ∧ Aside (zs.drop j = ss.drop j) ∧ Aside (Chg (fun i => i = g) w1 wr))
    case atStart => exact ⟨i0, i0 + 1, ss, rfl, by go_num, by omega, by omega, by omega, HN.out, R1.out, HF.out.symm, rfl, Chg.refl _ _⟩
    case round =>
      obtain ⟨i, j, zs, rfl, rfl, hij, hjn, hg, hzl, R, A, D, Y⟩ := hrel
      by_cases hlt : j < n
      · have hj : j < ss.length := by have := HN.out; omega
        have hjz : j < zs.length := by omega
        obtain ⟨s, hs⟩ : ∃ s, s = ss[j] := ⟨_, rfl⟩
        have hzs : zs[j] = s := by
          have e1 := congrArg (fun l => l[0]?) D.out
          simp only [List.getElem?_drop, Nat.add_zero] at e1
          rw [List.getElem?_eq_getElem hjz, List.getElem?_eq_getElem hj] at e1
          rw [hs]; exact Option.some.inj e1
        have HE := Lib.hid hs
        have l1 : Sem.run Try.prog (loadCellsFrom ⟨g, j * K49, none⟩ 0 K49 #[]) wr = .ok (spanCells s).toArray wr := by
          have := R.out.at.load hjz
          rw [hzs, Nat.zero_add] at this
          exact this
        have HZ := Lib.hid hzs
        clear hs hzs
        have st := fun cs (h : cs.size = 49) => store_last Try.prog (spanCells s) (spanCells_one _) wr cs 28 (by rw [h, spanCells_length])
        have l2 := span_load s wr
        have sl1 : (spanCells s).length = 49 := spanCells_length _
        have sl2 : ¬ (spanCells s).length ≠ K49 := by rw [sl1]; decide
        have cl := Lib.hid (empty_any s (wr.alloc (.cells (spanCells s).toArray 28)))
        unfold spanV at cl
        go_wp2_with fail
        refine cl.out.mono ?_
        rintro e w2 ⟨rfl, X2⟩
        have L3 : Sem.run Try.prog (loadCellsFrom ⟨wr.heap.size, 0, none⟩ 0 K49 #[]) w2 = .ok (spanCells s).toArray w2 := (X2.cells (cellsAt_new wr (spanCells s) 28)).load _ K49 (spanCells_length _)
        have X2 : Hid (Ext wr w2) := ((Ext.refl wr).alloc _).trans X2
        have D2 : Hid (zs.drop (j + 1) = ss.drop (j + 1)) := by
          have := congrArg (List.drop 1) D.out
          rwa [List.drop_drop, List.drop_drop] at this
        have A2 : Hid ((ss.take (j + 1)).filter keepS = zs.take i ++ (if emptyS s then [] else [s])) := by
          show _ = _; rw [filter_at ss j hj, A.out, HE.out]
        clear cl st l2
        cases he : emptyS s with
        | true =>
          go_wp2
          go_roundg (n - (j + 1))
          case measure => omega
          case rel => exact ⟨i, j + 1, zs, rfl, by go_num, by omega, by omega, Nat.le_refl _, hzl, R.out.ext X2.out, by rw [A2.out, he, if_pos rfl, List.append_nil]; exact rfl, D2.out, Y.out.trans (X2.out.chg fun _ => False) (fun _ _ h => h.elim)⟩
        | false =>
          have hin : i < n := by omega
          obtain ⟨w3, e3, R3, C3⟩ := (R.out.ext X2.out).put (show i < zs.length by omega) s
          have R3 := Lib.hid R3
          have C3 := Lib.hid C3
          go_wp2
          go_roundg (n - (j + 1))
          case measure => omega
          case rel =>
            refine ⟨i + 1, j + 1, zs.set i s, by go_num, by go_num, by omega, by omega, Nat.le_refl _, by rw [List.length_set]; exact hzl, R3.out, ?_, ?_, (Y.out.trans (X2.out.chg fun _ => False) (fun _ _ h => h.elim)).trans C3.out (fun _ _ h => h)⟩
            · rw [A2.out, he, List.take_succ_eq_append_getElem (by rw [List.length_set]; omega), List.take_set_of_le (Nat.le_refl _), List.getElem_set_self]
              rfl
            · rw [List.drop_set_of_lt (by omega)]; exact D2.out
      · obtain rfl : j = n := by omega
        have hin : i < zs.length := by omega
        have LE : Hid ((ss.filter keepS).length = i ∧ zs.take i = ss.filter keepS) := by
          have e : zs.take i = ss.filter keepS := by rw [A.out, List.take_of_length_le (by have := HN.out; omega)]
          exact ⟨by rw [← e, List.length_take]; omega, e⟩
        have hiz : i < j := by omega
        have cf := cut_from 22 28 Try.underlying22 49 Try.sizeOf28 g 0 j cap i (by omega) (by omega) hcap
        have ct := cut_to 22 28 Try.underlying22 49 Try.sizeOf28 (some ⟨g, 0, none⟩) j cap i (by omega)
        obtain ⟨w2, e2, R2, C2⟩ := R.out.clear (i := i) (c := cap - i) 0 hin
        rw [hzl] at e2
        have e2' : ∀ ty, (Builtin.clear_ #[22] ty #[.slice (some ⟨g, i * 49, none⟩) (j - i) (cap - i)]).run Try.prog wr = .ok (.tuple #[]) w2 := fun ty => e2
        rw [Nat.zero_add] at cf
        have R2 := Lib.hid R2
        have C2 := Lib.hid C2
        clear e2
        go_wp2
        go_ret
        rw [← LE.out.2, List.length_take, Nat.min_eq_left (by omega)]
        exact ⟨rfl, R2.out, ((X1.out.chg fun i => i = g).trans Y.out (fun _ _ h => h)).trans C2.out (fun _ _ h => h)⟩
end Go.Proofs.Ytfeomnkgkppdlaa
