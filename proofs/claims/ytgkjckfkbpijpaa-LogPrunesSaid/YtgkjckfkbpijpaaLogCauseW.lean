/- The walk of LogCause. -/
import Derived.Test.YtgkjckfkbpijpaaLogComs
import Derived.Deep.RegionHeld3
import Derived.Deep.CutBlock
import Derived.Deep.DeepCutAuto
set_option linter.unusedVariables false
set_option linter.unusedSimpArgs false
namespace Go.Proofs.Ytgkjckfkbpijpaa
open Go Go.RowKit Go.Sort Go.Lib
attribute [local go_sem ↓] run_size24 run_size49
attribute [local simp high] run_size24x run_size49x
attribute [local go_sem ↓] to_span1 to_span2 to_key1 to_spans1 to_keys1
attribute [local simp] is_bFrEn is_bTo is_bEn is_bFrTo is_bSpans1 is_bKeys1 run_bFrEn run_bTo run_bEn run_bFrTo run_bSpans1 run_bKeys1

theorem keyCells_ne (k : Key) : keyCells k ≠ [] := fun h => by have := keyCells_length k; rw [h] at this; simp at this
theorem cut_min (T E : TypeId) (hT : Try.prog.underlying T = some (.slice E)) (k : Nat) (hs : ∀ w, Sem.run Try.prog (sizeOf E) w = .ok k w) (a : Option Addr) (n c : Nat) (hc : n ≤ c) (b : Nat) (W : World) :
    (Instr.sliceAt T (.slice a n c) none (some (.int .i64 (min (n : Int) (b : Int)))) none).run Try.prog W = .ok (.slice a (min n b) c) W := by
  have e : (min (n : Int) (b : Int)) = ((min n b : Nat) : Int) := by omega
  have h1 : min n b ≤ c := by omega
  rw [e]
  cases a with
  | none => simp [Instr.sliceAt, run_underlying hT, Instr.slice, Instr.sliceBounds, Instr.sliceBound, asIntOf, h1, hs]
  | some a => simp [Instr.sliceAt, run_underlying hT, Instr.slice, Instr.sliceBounds, Instr.sliceBound, asIntOf, h1, hs, Addr.add]
theorem cut20 (a : Option Addr) (n c : Nat) (hc : n ≤ c) (W : World) : (Instr.sliceAt 32 (.slice a n c) none (some (.int .i64 (min (n : Int) 20))) none).run Try.prog W = .ok (.slice a (min n 20) c) W :=
  cut_min 32 24 Try.underlying32 24 Try.sizeOf24 a n c hc 20 W

/-- has some list of the commits behind a number any key -/
def someK (kss : List (List Key)) (since n : Nat) : Bool := ((kss.take n).drop since).any fun ks => decide (0 < (ks.take 20).length)
theorem piece_succ (kss : List (List Key)) (q j : Nat) (hq : q ≤ j) (hj : j < kss.length) : (kss.take (j + 1)).drop q = (kss.take j).drop q ++ [kss[j]] := by
  rw [List.take_succ_eq_append_getElem hj, List.drop_append_of_le_length (by rw [List.length_take]; omega)]
theorem cause_succ (kss : List (List Key)) (q j : Nat) (hq : q ≤ j) (hj : j < kss.length) (s : Sp) : cause kss q (j + 1) [s] = (cause kss q j [s] || hit (kss[j].take 20) s) := by
  unfold cause; rw [piece_succ kss q j hq hj, List.any_append]; simp
theorem someK_succ (kss : List (List Key)) (q j : Nat) (hq : q ≤ j) (hj : j < kss.length) : someK kss q (j + 1) = (someK kss q j || decide (0 < (kss[j].take 20).length)) := by
  unfold someK; rw [piece_succ kss q j hq hj, List.any_append]; simp
theorem cause_start (kss : List (List Key)) (q : Nat) (ss : List Sp) : cause kss q q ss = false := by
  unfold cause; rw [List.drop_eq_nil_iff.2 (by rw [List.length_take]; omega)]; rfl
theorem someK_start (kss : List (List Key)) (q : Nat) : someK kss q q = false := by
  unfold someK; rw [List.drop_eq_nil_iff.2 (by rw [List.length_take]; omega)]; rfl
theorem ltK_zero (k : Key) : ltK k zeroKey = false := by
  cases h : ltK k zeroKey with
  | false => rfl
  | true =>
    have := (ltK_iff _ _).1 h
    have key : ∀ (l : List UInt8) (n : Nat), ¬ (l < List.replicate n 0) ∨ l.length < n := by
      intro l
      induction l with
      | nil => intro n; cases n with
        | zero => left; simp
        | succ n => right; simp
      | cons x l ih =>
        intro n
        cases n with
        | zero => left; simp
        | succ n =>
          rcases ih n with h | h
          · left
            rw [List.replicate_succ, List.cons_lt_cons_iff]
            rintro (h1 | ⟨_, h2⟩)
            · exact absurd h1 (by simp [UInt8.lt_iff_toNat_lt])
            · exact h h2
          · right; simpa using h
    have e : zeroKey.toList = List.replicate 24 0 := by simp [zeroKey]
    rw [e] at this
    rcases key k.toList 24 with h1 | h1
    · exact absurd this h1
    · simp at h1
theorem cause_all (kss : List (List Key)) (q n : Nat) : cause kss q n [⟨zeroKey, zeroKey, true⟩] = someK kss q n := by
  unfold cause someK
  congr 1; funext ks
  rw [Bool.eq_iff_iff]
  simp only [List.any_cons, List.any_nil, Bool.or_false, decide_eq_true_iff]
  unfold hit
  rw [List.any_eq_true]
  constructor
  · rintro ⟨k, hk, _⟩; exact List.length_pos_of_mem hk
  · intro h
    exact ⟨(ks.take 20)[0], List.getElem_mem h, by simp [inSp, ltK_zero]⟩
theorem cause_empty (kss : List (List Key)) (q n : Nat) (k : Key) : cause kss q n [⟨k, k, false⟩] = false := by
  unfold cause
  rw [List.any_eq_false]
  intro ks _
  simp only [List.any_cons, List.any_nil, Bool.or_false, Bool.not_eq_true]
  unfold hit
  rw [List.any_eq_false]
  intro x _
  simp only [inSp, Bool.false_or, Bool.not_eq_true]
  cases ltK x k <;> rfl
theorem cause_nil (kss : List (List Key)) (q n : Nat) : cause kss q n [] = false := by
  unfold cause; rw [List.any_eq_false]; intro ks _; simp

theorem bits_low (n : Int) : bits .and .i64 n 65535 = n % 65536 := by
  have h127 : (BitVec.ofInt 64 65535).toNat = 2 ^ 16 - 1 := by decide
  have key : (BitVec.ofInt 64 n &&& BitVec.ofInt 64 65535).toNat = (n % ((2 ^ 64 : Nat) : Int)).toNat % 2 ^ 16 := by
    rw [BitVec.toNat_and, BitVec.toNat_ofInt, h127, Nat.and_two_pow_sub_one_eq_mod]
  show IntKind.i64.wrap ((BitVec.ofInt 64 n &&& BitVec.ofInt 64 65535).toNat : Nat) = n % 65536
  rw [key, IntKind.wrap_i64]
  omega
/-- the number asked from: at most the last one's -/
theorem since_low (x : Int) (k : Nat) : ∃ q : Nat, (bits .and .i64 x 65535).tmod ((k : Int) + 1) = (q : Int) ∧ q ≤ k := by
  have h0 : 0 ≤ bits .and .i64 x 65535 := by rw [bits_low]; omega
  have h1 := Int.tmod_nonneg ((k : Int) + 1) h0
  have h2 := Int.tmod_lt_of_pos (bits .and .i64 x 65535) (show (0 : Int) < (k : Int) + 1 by omega)
  exact ⟨((bits .and .i64 x 65535).tmod ((k : Int) + 1)).toNat, by omega, by omega⟩

set_option maxHeartbeats 4000000 in
set_option maxRecDepth 100000 in
theorem logCause_any (w : World) (ca : Option Addr) (ccap : Nat) (cvs : List Value) (kss : List (List Key)) (since : Int) (s : Sp)
    (hc : 0 < kss.length → ∃ b off, ca = some ⟨b, off, none⟩ ∧ ComsIn w b off cvs kss) (hb : kss.length ≤ 9223372036854775807) :
    Calls Try.prog 3 #[.slice ca kss.length ccap, .int .i64 since, spanV s] w fun e w' => e = .returned (.bool true) ∧ Below w.heap.size w w' := by
  have mixed := Try.mixed
  have k1 : ¬ K24 = 0 := by decide
  have k2 : ¬ K49 = 0 := by decide
  have HC := Lib.hid hc
  clear hc
  have E0 : Hid (Ext w (w.alloc (.cells (spanCells s).toArray 26))) := (Ext.refl w).alloc _
  have S0 : Hid (CellsAt (w.alloc (.cells (spanCells s).toArray 26)) w.heap.size 0 (spanCells s)) := cellsAt_new w (spanCells s) 26
  generalize hlen : kss.length = n at hb ⊢
  have HN := Lib.hid hlen
  clear hlen
  unfold spanV
  go_enter Try.func3, Try.ntmps3
  go_wp2_with fail
  refine (shown_any _).mono ?_
  rintro e w1 ⟨rfl, X1⟩
  have X1 := Lib.hid X1
  go_wp2_with fail
  refine (new_made w1 kss).mono ?_
  rintro e w2 ⟨rfl, X2, L2⟩
  have Y2 : Hid (Chg (fun _ => False) (w.alloc (.cells (spanCells s).toArray 26)) w2) := X1.out.trans (X2.chg _) (fun _ _ h => h)
  have L2 := Lib.hid L2
  have HP : Hid (w.heap.size + 1 ≤ w1.heap.size) := by have := X1.out.size; simp at this; exact this
  clear X1 X2
  generalize w1.heap.size = p at L2 HP ⊢
  generalize w.alloc (.cells (spanCells s).toArray 26) = wa at E0 S0 Y2
  go_upto_block 0 with fail
  go_cut [9, 10] (fun s9 s10 wx => ∃ k : Nat, s9 = .int .i64 k ∧ k = min n 30 ∧ Aside (Chg (fun j => p ≤ j) wa wx) ∧ Aside (LogMade wx p kss k))
  case rest =>
    clear L2 Y2
    obtain ⟨k, rfl, hk, X, L⟩ := hcut
    have hkn : k ≤ n := by omega
    have hk30 : k ≤ 30 := by omega
    clear hk
    obtain ⟨q, hq, hqk⟩ := since_low since k
    go_wp2
    clear hq
    go_loopg [11, 12, 13] k (fun kx s11 s12 s13 wr => ∃ j : Nat, s11 = .bool (cause kss q j [s]) ∧ s12 = .bool (someK kss q j) ∧ s13 = .int .i64 j ∧ q ≤ j ∧ j ≤ k ∧ k - j ≤ kx ∧ Aside (Ext wc wr))
    case atStart => exact ⟨q, by rw [cause_start], by rw [someK_start], rfl, Nat.le_refl _, hqk, by omega, Ext.refl _⟩
    case round =>
      obtain ⟨j, rfl, rfl, rfl, hqj, hjk, hg, Y⟩ := hrel
      by_cases hlt : j < k
      · have hjl : j < kss.length := by have := HN.out; omega
        obtain ⟨cb, co, rfl, CI⟩ := HC.out (by omega)
        have hjv : j < cvs.length := by rw [CI.len]; exact hjl
        have hcb : cb < w.heap.size := block_lt_of_cell (CI.cell j hjv)
        obtain ⟨ia, ic, hv, hic, hkeys⟩ := (CI.keys j hjv hjl).cut 20
        have hlow : ¬ p ≤ cb := by have := HP.out; omega
        have c1 : ∀ n', (wr.drewN n').cell? ⟨cb, co + j, none⟩ = some (.slice ia kss[j].length ic) := fun n' => by
          rw [← hv]; exact (Y.out.drewN n').cell (X.out.cell (E0.out.cell (CI.cell j hjv)) hlow)
        have cut := cut20 ia kss[j].length ic hic
        have KK : Hid (0 < (kss[j].take 20).length → ∃ b o, ia = some ⟨b, o, none⟩ ∧ KeysAt wr b o (kss[j].take 20)) := fun hp => by
          obtain ⟨a', c', e, hk⟩ := hkeys
          simp only [Value.slice.injEq] at e
          obtain ⟨b, o, e', hr⟩ := hk hp
          refine ⟨b, o, e.1.trans e', fun t ht => Y.out.cells (X.out.cells (E0.out.cells (hr t ht)) ?_)⟩
          have := (hr t ht).lt (keyCells_ne _)
          have := HP.out
          show ¬ p ≤ b
          omega
        have CS : Hid (cause kss q (j + 1) [s] = (cause kss q j [s] || hit (kss[j].take 20) s)) := cause_succ kss q j hqj hjl s
        have SS : Hid (someK kss q (j + 1) = (someK kss q j || decide (0 < (kss[j].take 20).length))) := someK_succ kss q j hqj hjl
        have HL : Hid ((kss[j].take 20).length = min kss[j].length 20) := by show _ = _; rw [List.length_take, Nat.min_comm]
        have HCI := Lib.hid CI
        clear CI hv hkeys
        generalize kss[j].take 20 = ks at KK CS SS HL
        generalize kss[j].length = m at c1 cut HL hic
        generalize hcz : cause kss q j [s] = cz at CS ⊢
        generalize hsz : someK kss q j = sz at SS ⊢
        have CZ := Lib.hid hcz
        have SZ := Lib.hid hsz
        clear hcz hsz
        have z1 : (j : Int) < (n : Int) := by omega
        have hr20 : min m 20 ≤ 20 := Nat.min_le_right _ _
        generalize min m 20 = r at cut HL hr20
        generalize hsz' : (sz || decide (0 < ks.length)) = sz' at SS
        have SZ' := Lib.hid hsz'
        clear hsz'
        go_wp2
        go_quiet (fail)
        go_upto_region 19 with fail
        go_cut [12] (fun s12 wx => s12 = .bool sz' ∧ wx = wr.drewN nq)
        case first =>
          cases sz with
          | true =>
            have e : Hid (sz' = true) := by
              show sz' = true
              rw [← SZ'.out]; rfl
            go_wp2_with fail
            go_meet
            exact ⟨by rw [e.out], rfl⟩
          | false =>
            have e : Hid (sz' = decide (0 < r)) := by
              show sz' = _
              rw [← SZ'.out, HL.out]; rfl
            go_wp2_with fail
            go_meet
            exact ⟨by rw [e.out], rfl⟩
        case rest =>
          obtain ⟨rfl, rfl⟩ := hcut
          generalize hwd : wr.drewN nq = wd
          have YD : Hid (Ext wc wd) := by show Ext wc wd; rw [← hwd]; exact Y.out.drewN nq
          have KD : Hid (0 < ks.length → ∃ b o, ia = some ⟨b, o, none⟩ ∧ KeysAt wd b o ks) := fun hp => by
            obtain ⟨b, o, e, h⟩ := KK.out hp
            exact ⟨b, o, e, RowAt.ext (enc := keyCells) (k := K24) h (by rw [← hwd]; exact (Ext.refl wr).drewN nq)⟩
          clear hwd c1 cut
          go_wp2
          go_loopg [11, 15] r (fun ky s11 s15 wr => ∃ t : Nat, s11 = .bool (cz || (ks.take t).any fun x => inSp x s) ∧ s15 = .int .i64 t ∧ t ≤ r ∧ r - t ≤ ky ∧ Aside (Ext wd wr))
          case atStart => exact ⟨0, by simp, rfl, Nat.zero_le _, by omega, Ext.refl _⟩
          case round =>
            obtain ⟨t, rfl, rfl, htr, hgt, Z⟩ := hrel
            by_cases htl : t < r
            · have htk : t < ks.length := by rw [HL.out]; exact htl
              obtain ⟨kb, ko, rfl, hrow⟩ := KD.out (by omega)
              have TS : Hid ((ks.take (t + 1)).any (fun x => inSp x s) = ((ks.take t).any (fun x => inSp x s) || inSp ks[t] s)) := by
                show _ = _
                rw [List.take_succ_eq_append_getElem htk, List.any_append]; simp
              generalize hac : (cz || (ks.take t).any fun x => inSp x s) = ac at *
              have AC := Lib.hid hac
              clear hac
              have zt : (t : Int) < (r : Int) := by omega
              cases ac with
              | true =>
                have F : Hid ((cz || (ks.take (t + 1)).any fun x => inSp x s) = true) := by
                  show _ = _
                  rw [TS.out, ← Bool.or_assoc, AC.out]; rfl
                go_wp2
                go_quiet (fail)
                go_wp2
                go_roundg (r - (t + 1))
                case measure => omega
                case rel => exact ⟨t + 1, by rw [F.out], by go_num, by omega, Nat.le_refl _, Z.out.drewN nq⟩
              | false =>
                obtain ⟨x, hx⟩ : ∃ x, x = ks[t] := ⟨_, rfl⟩
                have F : Hid ((cz || (ks.take (t + 1)).any fun x => inSp x s) = inSp x s) := by
                  show _ = _
                  rw [TS.out, ← Bool.or_assoc, AC.out, hx]; rfl
                have l1 : ∀ n' os, Sem.run Try.prog (loadCellsFrom ⟨kb, ko + t * K24, none⟩ 0 K24 #[]) (grow (wr.drewN n') os) = .ok (keyCells x).toArray (grow (wr.drewN n') os) := fun n' os => by
                  rw [hx]; exact ((Z.out.grow n' os).cells (hrow t htk)).load _ K24 (keyCells_length _)
                have l2 : ∀ n' os, Sem.run Try.prog (loadCellsFrom ⟨w.heap.size, 0, none⟩ 0 K49 #[]) (grow (wr.drewN n') os) = .ok (spanCells s).toArray (grow (wr.drewN n') os) := fun n' os =>
                  (((YD.out.trans Z.out).grow n' os).cells (X.out.cells S0.out (by show ¬ p ≤ w.heap.size; have := HP.out; omega))).load _ K49 (spanCells_length _)
                have cl := fun n os => Calls.grown_ext (in17_any x s (grow (wr.drewN n) os))
                have CLL := Lib.hid cl
                clear cl hx
                go_wp2
                go_quiet_grown ((go_at_call 10; exact CLL.out _ _))
                go_wp2
                go_roundg (r - (t + 1))
                case measure => omega
                case rel => exact ⟨t + 1, by rw [F.out], by go_num, by omega, Nat.le_refl _, Z.out.grow nq osq⟩
            · have F : Hid ((cz || (ks.take t).any fun x => inSp x s) = cause kss q (j + 1) [s]) := by
                show _ = _
                rw [CS.out, List.take_of_length_le (by rw [HL.out]; omega)]; rfl
              have G : Hid (sz' = someK kss q (j + 1)) := by show _ = _; rw [SS.out]
              go_wp2
              go_roundg (k - (j + 1))
              case measure => omega
              case rel => exact ⟨j + 1, by rw [F.out], by rw [G.out], by go_num, by omega, by omega, Nat.le_refl _, YD.out.trans Z.out⟩
      · obtain rfl : j = k := by omega
        have l1 : Sem.run Try.prog (loadCellsFrom ⟨w.heap.size, 0, none⟩ 0 K49 #[]) wr = .ok (spanCells s).toArray wr := (Y.out.cells (X.out.cells S0.out (by show ¬ p ≤ w.heap.size; have := HP.out; omega))).load _ K49 (spanCells_length _)
        have BX : Hid (CellsAt wr w.heap.size 0 (spanCells s)) := Y.out.cells (X.out.cells S0.out (by show ¬ p ≤ w.heap.size; have := HP.out; omega))
        have q1 := Lib.hid (conf_made (L.out.ext (Y.out.alloc (.cells (spanCells s).toArray 26))) hqk (spansIn_one (cellsAt_new wr (spanCells s) 26)) (by simp))
        go_wp2_with fail
        refine q1.out.mono ?_
        rintro e w3 ⟨rfl, Z3⟩
        have Z3 : Hid (Ext wr w3) := ((Ext.refl wr).alloc _).trans Z3
        clear q1 l1
        have q2 := conf_made (L.out.ext (Y.out.trans (Z3.out.alloc (.cells (spanCells ⟨zeroKey, zeroKey, true⟩).toArray 26)))) hqk (spansIn_one (cellsAt_new w3 (spanCells ⟨zeroKey, zeroKey, true⟩) 26)) (by simp)
        rw [cause_all] at q2
        have q2 := Lib.hid q2
        go_wp2_with fail
        refine q2.out.mono ?_
        rintro e w4 ⟨rfl, Z4⟩
        have Z4 : Hid (Ext wr w4) := (Z3.out.alloc _).trans Z4
        clear q2 Z3
        have l1 : Sem.run Try.prog (loadCellsFrom ⟨w.heap.size, 0, none⟩ 0 K24 #[]) w4 = .ok (keyCells s.fr).toArray w4 := (spanFr (Z4.out.cells BX.out)).load _ K24 (keyCells_length _)
        have q3 := conf_made (L.out.ext (Y.out.trans (Z4.out.alloc (.cells (spanCells ⟨s.fr, s.fr, false⟩).toArray 26)))) hqk (spansIn_one (cellsAt_new w4 (spanCells ⟨s.fr, s.fr, false⟩) 26)) (by simp)
        rw [cause_empty] at q3
        have q3 := Lib.hid q3
        go_wp2_with fail
        refine q3.out.mono ?_
        rintro e w5 ⟨rfl, Z5⟩
        have Z5 : Hid (Ext wr w5) := (Z4.out.alloc _).trans Z5
        clear q3 Z4 l1
        have q4 := conf_made (sv := .slice none 0 0) (ss := []) (L.out.ext (Y.out.trans Z5.out)) hqk ⟨none, 0, rfl, fun h => absurd h (by simp)⟩ (by simp)
        rw [cause_nil] at q4
        have q4 := Lib.hid q4
        go_wp2_with fail
        refine q4.out.mono ?_
        rintro e w6 ⟨rfl, Z6⟩
        have Z6 : Hid (Ext wr w6) := Z5.out.trans Z6
        clear q4 Z5
        go_wp2
        go_ret
        refine ⟨rfl, ?_⟩
        have C : Chg (fun j => p ≤ j) w w6 := ((E0.out.chg (fun j => p ≤ j)).trans X.out (fun _ _ h => h)).trans ((Y.out.trans Z6.out).chg (fun j => p ≤ j)) (fun _ _ h => h)
        exact C.below (Nat.le_refl _) (fun i hi h => by have := HP.out; omega)
  go_wp2
  go_loopg [9, 10] 30 (fun kx s9 s10 wr => ∃ i : Nat, s9 = .int .i64 i ∧ s10 = .int .i64 i ∧ i ≤ n ∧ i ≤ 30 ∧ 30 - i ≤ kx ∧ Aside (Chg (fun j => p ≤ j) wa wr) ∧ Aside (LogMade wr p kss i))
  case atStart => exact ⟨0, rfl, rfl, Nat.zero_le _, Nat.zero_le _, by omega, Y2.out.mono (fun _ _ h => h.elim), L2.out⟩
  case round =>
    clear L2 Y2
    obtain ⟨i, rfl, rfl, hin, hi30, hg, X, L⟩ := hrel
    by_cases hlt : i < n
    · by_cases hl3 : i < 30
      · have hik : i < kss.length := by have := HN.out; omega
        obtain ⟨cb, co, rfl, CI⟩ := HC.out (by omega)
        have hiv : i < cvs.length := by rw [CI.len]; exact hik
        have hcb : cb < w.heap.size := block_lt_of_cell (CI.cell i hiv)
        have hlow : cb < p := by have := HP.out; omega
        obtain ⟨ia, ic, hv, hic, hkeys⟩ := (CI.keys i hiv hik).cut 20
        have c1 : wr.cell? ⟨cb, co + i, none⟩ = some (.slice ia kss[i].length ic) := by
          rw [← hv]; exact X.out.cell (E0.out.cell (CI.cell i hiv)) (show ¬ p ≤ cb by omega)
        have hkw : ∀ W, Ext wr W → KeysIn W (.slice ia (min kss[i].length 20) ic) (kss[i].take 20) := fun W hW => by
          refine KeysIn.ext (w := wr) ?_ hW
          obtain ⟨a', c', e, hk⟩ := hkeys
          exact ⟨a', c', e, fun hp => let ⟨b, o, e', hr⟩ := hk hp; ⟨b, o, e', fun j hj => X.out.cells (E0.out.cells (hr j hj)) (by have := (hr j hj).lt (keyCells_ne _); have := HP.out; omega)⟩⟩
        have add := fun W (hW : Ext wr W) => add_made (L.out.ext hW) hik hl3 (hkw W hW)
        have cut := cut20 ia kss[i].length ic hic
        have HCI := Lib.hid CI
        have A := Lib.hid add
        clear CI hv hkeys hkw add
        generalize kss[i].length = m at c1 cut A hic
        go_wp2
        have z1 : (0 : Int) ≤ (i : Int) := Int.natCast_nonneg _
        have z2 : (i : Int) < (n : Int) := by omega
        go_region_held3 (fun w' => w'.cell? ⟨cb, co + i, none⟩ = some (.slice ia m ic)) (first | go_keep | exact k3) (first | (go_at_call 9; refine (A.out _ ((Ext.refl wr).drew)).mono ?_; rintro e w3 ⟨rfl, L3, X3⟩; have k3 := X3.cell c1 (show ¬ p ≤ cb by omega); have L3 := Lib.hid L3; have X3 := Lib.hid X3))
        go_wp2
        go_roundg (30 - (i + 1))
        case measure => omega
        case rel => exact ⟨i + 1, by go_num, by go_num, by omega, by omega, Nat.le_refl _, X.out.drew.trans X3.out (fun _ _ h => h), L3.out⟩
      · have hd : decide ((i : Int) < 30) = false := by simp; omega
        go_wp2_with fail
        go_meet
        exact ⟨i, rfl, by omega, X, L⟩
    · go_wp2_with fail
      go_meet
      exact ⟨i, rfl, by omega, X, L⟩
end Go.Proofs.Ytgkjckfkbpijpaa
