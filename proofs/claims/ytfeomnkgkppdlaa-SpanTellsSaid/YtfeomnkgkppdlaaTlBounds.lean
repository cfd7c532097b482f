/- The reference's bounds: all bounds of spans that are not empty, rising, each once. -/
import Derived.Test.YtfeomnkgkppdlaaTlWith
set_option linter.unusedVariables false
set_option linter.unusedSimpArgs false
namespace Go.Proofs.Ytfeomnkgkppdlaa
open Go Go.RowKit Go.Sort Go.Lib Go.Deep
attribute [local go_sem ↓] run_size24 run_size49 run_size25
attribute [local simp high] run_size24x run_size49x run_size25x
def addB (out : List Bd) (s : Sp) : List Bd := if nB (fromB s) < nB (toB s) then insB (insB out (fromB s)) (toB s) else out
def bdsL (ss : List Sp) : List Bd := ss.foldl addB []
theorem insB_len : ∀ (xs : List Bd) (s : Bd), (insB xs s).length ≤ xs.length + 1
  | [], s => Nat.le_refl _
  | x :: r, s => by
    have := insB_len r s
    show (if nB x < nB s then x :: insB r s else if nB x = nB s then x :: r else s :: x :: r).length ≤ _
    split
    · simp only [List.length_cons]; omega
    · split <;> simp
theorem bds_next (ss : List Sp) (t : Nat) (ht : t < ss.length) : bdsL (ss.take (t + 1)) = addB (bdsL (ss.take t)) ss[t] := by
  unfold bdsL
  rw [List.take_succ_eq_append_getElem ht, List.foldl_append]
  rfl
theorem addB_len (out : List Bd) (s : Sp) : (addB out s).length ≤ out.length + 2 := by
  unfold addB
  split
  · have := insB_len (insB out (fromB s)) (toB s); have := insB_len out (fromB s); omega
  · omega
theorem bds_len : ∀ (ss : List Sp) (t : Nat), t ≤ ss.length → (bdsL (ss.take t)).length ≤ 2 * t
  | ss, 0, _ => by simp [bdsL]
  | ss, t + 1, h => by
    rw [bds_next ss t (by omega)]
    have := addB_len (bdsL (ss.take t)) ss[t]
    have := bds_len ss t (by omega)
    omega
set_option maxHeartbeats 4000000 in
set_option maxRecDepth 100000 in
theorem boundsR_any (v : Value) (ss : List Sp) (w : World) (hs : SpansIn w v ss) (hn : ss.length ≤ 200) : Calls Try.prog 40 #[v] w fun e w' => ∃ v', e = .returned v' ∧ StrsIn w' v' (bdsL ss) ∧ Chg (fun _ => False) w w' := by
  have k2 : ¬ K49 = 0 := by decide
  obtain ⟨a, c, rfl, hl, hr, _⟩ := hs
  have HR := Lib.hid hr
  clear hr hl
  have BL := Lib.hid (bds_len ss)
  generalize hlen : ss.length = n at hn BL ⊢
  have HN := Lib.hid hlen
  clear hlen
  go_enter Try.func40, Try.ntmps40
  go_wp2
  go_loopg [3, 4] n (fun kx s3 s4 wr => ∃ t : Nat, s4 = .int .i64 t ∧ t ≤ n ∧ n - t ≤ kx ∧ Aside (StrsIn wr s3 (bdsL (ss.take t))) ∧ Aside (Chg (fun _ => False) w wr))
  case atStart => exact ⟨0, rfl, Nat.zero_le _, by omega, strs_own (B := 0) (n := 0) (xs := []) (World.ownsRow_nil _ _ _ _), Chg.refl _ _⟩
  case round =>
    obtain ⟨t, rfl, ht, hg, ST, Y⟩ := hrel
    have ST : Hid (StrsIn wr u3 (bdsL (ss.take t))) := ST
    have Y : Hid (Chg (fun _ => False) w wr) := Y
    have z0 : (0 : Int) ≤ (t : Int) := by omega
    by_cases hlt : t < n
    · have z1 : (t : Int) < (n : Int) := by omega
      have htl : t < ss.length := by rw [HN.out]; exact hlt
      obtain ⟨b, off, rfl, row⟩ := HR.out (by omega)
      have C := Y.out.cells (row t htl) id
      have NX := Lib.hid (bds_next ss t htl)
      have LE := Lib.hid (BL.out t ht)
      have l1 : Sem.run Try.prog (loadCellsFrom ⟨b, off + t * K49, none⟩ 0 K49 #[]) wr = .ok (spanCells ss[t]).toArray wr := C.load _ K49 (spanCells_length _)
      have cv : (convert 50 9 (.slice (some ⟨b, off + t * K49, none⟩) 24 24)).run Try.prog wr = .ok (.string (strK ss[t].fr)) wr := conv_key _ wr b (off + t * K49) 24 (spanFr C)
      generalize ss[t] = s at l1 cv NX
      have q := Lib.hid (to_of s wr)
      unfold spanV at q
      have lt := strBd_less (fromB s) (toB s)
      have ef : strBd (fromB s) = strK s.fr := rfl
      rw [ef] at lt
      have EF := Lib.hid ef.symm
      clear C row ef
      go_wp2_with fail
      refine q.out.mono ?_
      rintro e w2 ⟨rfl, X2⟩
      have Y2 : Hid (Chg (fun _ => False) w w2) := Y.out.trans (X2.chg _) (fun _ _ h => h)
      have ST2 := Lib.hid (ST.out.chg (X2.chg (fun _ => False)) (fun _ _ h => h))
      clear q l1 cv X2
      by_cases hlt2 : nB (fromB s) < nB (toB s)
      · have NX2 : Hid (bdsL (ss.take (t + 1)) = insB (insB (bdsL (ss.take t)) (fromB s)) (toB s)) := NX.out.trans (if_pos hlt2)
        rw [decide_eq_true hlt2] at lt
        clear hlt2
        have L1 := Lib.hid (insB_len (bdsL (ss.take t)) (fromB s))
        have q1 := withR_any u3 _ (fromB s) w2 ST2.out (by have := LE.out; omega)
        rw [← EF.out] at q1
        have q1 := Lib.hid q1
        go_wp2_with fail
        refine q1.out.mono ?_
        rintro e w3 ⟨v3, rfl, S3, X3⟩
        have Y3 : Hid (Chg (fun _ => False) w w3) := Y2.out.trans X3 (fun _ _ h => h)
        have q2 := Lib.hid (withR_any v3 _ (toB s) w3 S3 (by have := LE.out; have := L1.out; omega))
        clear q1 X3 S3
        go_wp2_with fail
        refine q2.out.mono ?_
        rintro e w4 ⟨v4, rfl, S4, X4⟩
        have S4 := Lib.hid S4
        have Y4 : Hid (Chg (fun _ => False) w w4) := Y3.out.trans X4 (fun _ _ h => h)
        clear q2 X4
        go_wp2
        go_roundg (n - (t + 1))
        case measure => omega
        case rel => exact ⟨t + 1, by go_num, by omega, Nat.le_refl _, by rw [NX2.out]; exact S4.out, Y4.out⟩
      · have NX2 : Hid (bdsL (ss.take (t + 1)) = bdsL (ss.take t)) := NX.out.trans (if_neg hlt2)
        rw [decide_eq_false hlt2] at lt
        clear hlt2
        go_wp2
        go_roundg (n - (t + 1))
        case measure => omega
        case rel => exact ⟨t + 1, by go_num, by omega, Nat.le_refl _, by rw [NX2.out]; exact ST2.out, Y2.out⟩
    · obtain rfl : t = n := by omega
      have z1 : ¬ (t : Int) < (t : Int) := by omega
      have e : ss.take t = ss := List.take_of_length_le (by rw [HN.out]; exact Nat.le_refl _)
      rw [e] at ST
      clear e
      go_wp2
      go_ret
      exact ⟨_, rfl, ST.out, Y.out⟩
end Go.Proofs.Ytfeomnkgkppdlaa
