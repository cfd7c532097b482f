/- The reference's where: the pieces that are in, put together where they meet. -/
import Derived.Test.YtfeomnkgkppdlaaTlBounds
import Derived.Test.YtfeomnkgkppdlaaSpJoin
set_option linter.unusedVariables false
set_option linter.unusedSimpArgs false
namespace Go.Proofs.Ytfeomnkgkppdlaa
open Go Go.RowKit Go.Sort Go.Lib Go.Deep
attribute [local go_sem ↓] run_size24 run_size49 run_size25
attribute [local simp high] run_size24x run_size49x run_size25x
attribute [local go_sem ↓] to_span1 to_span2 to_span3 to_key1 to_spans1 to_keys1 to_bd0 to_bd1
attribute [local simp] is_bFrEn is_bTo is_bEn is_bFrTo is_bSpans1 is_bKeys1 run_bFrEn run_bTo run_bEn run_bFrTo run_bSpans1 run_bKeys1 is_bBdKey is_bBdEn is_bSp3 run_bBdKey run_bBdEn run_bBd0 run_bSp3
/-- a slice of booleans -/
structure BoolsIn (w : World) (v : Value) (bs : List Bool) : Prop where
  shape : ∃ a c, v = .slice a bs.length c ∧ bs.length ≤ c ∧ (0 < bs.length → ∃ b o, a = some ⟨b, o, none⟩ ∧ CellsAt w b o (bs.map fun x => .bool x))
def boolsV (bs : List Bool) : List Value := bs.map fun x => .bool x
theorem boolsV_length (bs : List Bool) : (boolsV bs).length = bs.length := by simp [boolsV]
theorem BoolsIn.chg {w w' : World} {S : Nat → Prop} {v : Value} {xs : List Bool} (h : BoolsIn w v xs) (X : Chg S w w') (hS : ∀ i, i < w.heap.size → ¬ S i) : BoolsIn w' v xs := by
  obtain ⟨a, c, e, h1, h3⟩ := h
  refine ⟨a, c, e, h1, fun hp => ?_⟩
  obtain ⟨b, o, e', hc⟩ := h3 hp
  exact ⟨b, o, e', X.cells hc (hS b (hc.lt (by intro e; have := congrArg List.length e; simp at this; rw [this] at hp; simp at hp)))⟩
theorem bools_own {w : World} {B n : Nat} {v : Value} {xs : List Bool} (h : w.ownsRow B 4 1 v n (boolsV xs)) : BoolsIn w v xs := by
  have hl : xs.length = n := by have := h.1; rw [boolsV_length, Nat.mul_one] at this; exact this
  rcases owns_shape h with ⟨e, h0⟩ | ⟨g, cap, e, _, _, h1, h2⟩
  · exact ⟨none, 0, by rw [e, hl, h0], by omega, fun hp => by omega⟩
  · exact ⟨some ⟨g, 0, none⟩, cap, by rw [e, hl], by omega, fun _ => ⟨g, 0, rfl, owns_cells h e⟩⟩
theorem RowB.fr {w : World} {g cap m : Nat} {zs : List Sp} {s : Sp} (h : RowB w g cap (zs.set m s)) (hm : m < zs.length) : CellsAt w g (m * 49) (keyCells s.fr) := by
  have := h.at m (by rw [List.length_set]; exact hm)
  rw [List.getElem_set_self, Nat.zero_add] at this
  exact spanFr this
theorem app_span {W : World} {B n : Nat} {v : Value} {xs : List Sp} {s : Sp} (own : W.ownsRow B 28 49 v n (flat spanCells xs)) (hB : B ≤ W.heap.size) (g : Nat) (hc : CellsAt W g 0 (spanCells s)) (hb : n + 1 ≤ 100000) :
    ∃ v' W', (Builtin.append_ #[22, 22] 22 #[v, .slice (some ⟨g, 0, none⟩) 1 1]).run Try.prog W = .ok v' W' ∧ W'.ownsRow B 28 49 v' (n + 1) (flat spanCells (xs ++ [s])) ∧ Chg (fun i => B ≤ i) W W' := by
  obtain ⟨i0, hi, hz0, hz1, hz2⟩ := info_parts info28
  obtain ⟨v', W', h1', h2, h3, _, _⟩ := run_append_own_at (P := Try.prog) W B 22 22 28 i0 (.agg (spanCells zeroSp).toArray) 49 49 Try.underlying22 hi hz0 hz1 hz2 rfl (by decide) v n _ own ⟨g, 0, none⟩ 1 1 (spanCells s) (spanCells_length _) (fun j u hj => by rw [Addr.add_lit]; exact hc j u hj) (spanCells_one _) (by unfold maxLen; omega) (by omega) hB
  exact ⟨v', W', h1', by rw [flat_append]; simpa [flat] using h2, h3.chg.mono (fun i _ e => (own.lt i e).1)⟩
/-- one piece more -/
def whS (out : List Sp) (c d : Bd) : List Sp :=
  if h : 0 < out.length then (if nB (toB (out[out.length - 1]'(by omega))) = nB c then out.set (out.length - 1) (madeS ⟨(out[out.length - 1]'(by omega)).fr, false⟩ d) else out ++ [madeS ⟨c.key, false⟩ d]) else out ++ [madeS ⟨c.key, false⟩ d]
theorem whS_nil {out : List Sp} {c d : Bd} (h : ¬ 0 < out.length) : whS out c d = out ++ [madeS ⟨c.key, false⟩ d] := by unfold whS; rw [dif_neg h]
theorem whS_set {out : List Sp} {c d : Bd} {m : Nat} (h : out.length = m + 1) (e : nB (toB (out[m]'(by omega))) = nB c) : whS out c d = out.set m (madeS ⟨(out[m]'(by omega)).fr, false⟩ d) := by
  obtain rfl : m = out.length - 1 := by omega
  unfold whS
  rw [dif_pos (by omega), if_pos e]
theorem whS_app {out : List Sp} {c d : Bd} {m : Nat} (h : out.length = m + 1) (e : ¬ nB (toB (out[m]'(by omega))) = nB c) : whS out c d = out ++ [madeS ⟨c.key, false⟩ d] := by
  obtain rfl : m = out.length - 1 := by omega
  unfold whS
  rw [dif_pos (by omega), if_neg e]
theorem whS_len (out : List Sp) (c d : Bd) : (whS out c d).length ≤ out.length + 1 := by
  unfold whS
  split
  · split <;> simp
  · simp
def whL (cuts : List Bd) (ins : List Bool) : Nat → List Sp
  | 0 => []
  | t + 1 => if (ins[t]?.getD false) = true then whS (whL cuts ins t) (cuts[t]?.getD zeroBd) (cuts[t + 1]?.getD zeroBd) else whL cuts ins t
theorem whL_len (cuts : List Bd) (ins : List Bool) : ∀ t, (whL cuts ins t).length ≤ t
  | 0 => Nat.le_refl _
  | t + 1 => by
    have := whL_len cuts ins t
    unfold whL
    split
    · have := whS_len (whL cuts ins t) (cuts[t]?.getD zeroBd) (cuts[t + 1]?.getD zeroBd); omega
    · omega
theorem getD_at {α : Type} {l : List α} {i : Nat} {z : α} (h : i < l.length) : l[i]?.getD z = l[i] := by rw [List.getElem?_eq_getElem h]; rfl
theorem owns_len {w : World} {B e k n : Nat} {v : Value} {xs : List Value} (h : w.ownsRow B e k v n xs) : ∃ a c, v = .slice a n c := by
  rcases owns_shape h with ⟨e, h0⟩ | ⟨g, cap, e, _⟩
  · exact ⟨none, 0, by rw [e, h0]⟩
  · exact ⟨_, _, e⟩
set_option maxHeartbeats 4000000 in
set_option maxRecDepth 100000 in
theorem whereR_any (vc vi : Value) (cuts : List Bd) (ins : List Bool) (w : World) (hc : StrsIn w vc cuts) (hi : BoolsIn w vi ins) (hn : cuts.length ≤ 1000) (hq : cuts.length ≤ ins.length + 1) (hN : ∀ c ∈ cuts, NormB c) (hE : ∀ i (hi : i < cuts.length), i + 1 < cuts.length → cuts[i].en = false) :
    Calls Try.prog 42 #[vc, vi] w fun e w' => ∃ v', e = .returned v' ∧ SpansIn w' v' (whL cuts ins (cuts.length - 1)) ∧ Chg (fun _ => False) w w' := by
  have mixed := Try.mixed
  have k1 : ¬ K24 = 0 := by decide
  have k2 : ¬ K49 = 0 := by decide
  have HN := Lib.hid hN
  have HE := Lib.hid hE
  obtain ⟨a, c, rfl, hc1, hc2, hc3, hc4⟩ := hc
  obtain ⟨a', c', rfl, hi1, hi3⟩ := hi
  have H3 := Lib.hid hc3
  have I3 := Lib.hid hi3
  clear hc1 hc2 hc3 hc4 hi1 hi3 hN hE
  have BL := Lib.hid (whL_len cuts ins)
  generalize hlen : cuts.length = n at hn hq ⊢
  have LN := Lib.hid hlen
  generalize hlen2 : ins.length = q at hq ⊢
  have LQ := Lib.hid hlen2
  clear hlen hlen2
  go_enter Try.func42, Try.ntmps42
  go_wp2
  go_loopg [5, 6] n (fun kx s5 s6 wr => ∃ t : Nat, s6 = .int .i64 t ∧ t ≤ n - 1 ∧ n - t ≤ kx ∧ Aside (wr.ownsRow w.heap.size 28 49 s5 (whL cuts ins t).length (flat spanCells (whL cuts ins t))) ∧ Aside (Chg (fun _ => False) w wr))
  case atStart => exact ⟨0, rfl, Nat.zero_le _, by omega, World.ownsRow_nil _ _ _ _, Chg.refl _ _⟩
  case round =>
    obtain ⟨t, rfl, ht, hg, OW, Y⟩ := hrel
    have OW : Hid (wr.ownsRow w.heap.size 28 49 u5 (whL cuts ins t).length (flat spanCells (whL cuts ins t))) := OW
    have Y : Hid (Chg (fun _ => False) w wr) := Y
    have z0 : (0 : Int) ≤ (t : Int) := by omega
    have z00 : (0 : Int) ≤ (t : Int) + 1 := by omega
    by_cases hlt : t + 1 < n
    · have z1 : (t : Int) + 1 < (n : Int) := by omega
      have z2 : (t : Int) < (n : Int) := by omega
      have z3 : (t : Int) < (q : Int) := by omega
      have wt : IntKind.i64.wrap ((t : Int) + 1) = (t : Int) + 1 := by rw [IntKind.wrap_i64]; omega
      have htl : t < cuts.length := by rw [LN.out]; omega
      have htl1 : t + 1 < cuts.length := by rw [LN.out]; omega
      have htq : t < ins.length := by rw [LQ.out]; omega
      obtain ⟨b, o, rfl, C⟩ := H3.out (by omega)
      obtain ⟨bi, oi, rfl, CI⟩ := I3.out (by omega)
      have ci : wr.cell? ⟨bi, oi + t, none⟩ = some (.bool ins[t]) := Y.out.cell (CI t _ (by simp [htq])) id
      have hbw : b < w.heap.size := C.lt (by intro e; have := congrArg List.length e; simp at this; rw [this] at htl; simp at htl)
      have c1 : ∀ W, Chg (fun i => w.heap.size ≤ i) w W → W.cell? ⟨b, o + t, none⟩ = some (.string (strBd cuts[t])) := fun W X => X.cell (C t _ (by simp [htl])) (by show ¬ _ ≤ b; omega)
      have d1 : ∀ W, Chg (fun i => w.heap.size ≤ i) w W → W.cell? ⟨b, o + (t + 1), none⟩ = some (.string (strBd cuts[t + 1])) := fun W X => X.cell (C (t + 1) _ (by simp [htl1])) (by show ¬ _ ≤ b; omega)
      have NX0 : Hid (whL cuts ins (t + 1) = if ins[t] = true then whS (whL cuts ins t) cuts[t] cuts[t + 1] else whL cuts ins t) := by
        show _ = _
        rw [whL, getD_at htq, getD_at htl, getD_at htl1]
      have ec : strBd cuts[t] = strK cuts[t].key := by unfold strBd; rw [HE.out t htl htl1]; rfl
      have nd := HN.out cuts[t + 1] (List.getElem_mem _)
      have LE := Lib.hid (BL.out t)
      generalize ins[t] = bt at ci NX0
      generalize cuts[t] = c at c1 NX0 ec
      generalize cuts[t + 1] = d at d1 NX0 nd
      generalize hout : whL cuts ins t = outs at OW NX0 LE
      clear hout CI C HN HE
      have Y9 : Hid (Chg (fun i => w.heap.size ≤ i) w wr) := Y.out.mono (fun _ _ h => h.elim)
      cases bt with
      | false =>
        have NX : Hid (whL cuts ins (t + 1) = outs) := NX0.out
        clear NX0 c1 d1 ec nd
        go_wp2
        go_roundg (n - (t + 1))
        case measure => omega
        case rel => exact ⟨t + 1, by go_num, by omega, Nat.le_refl _, by rw [NX.out]; exact OW.out, Y.out⟩
      | true =>
        have NX : Hid (whL cuts ins (t + 1) = whS outs c d) := NX0.out
        clear NX0
        have OFC : Hid (∀ W, Calls Try.prog 52 #[.string (strK c.key), .string (strBd d)] W fun e w' => e = .returned (.agg (spanCells (madeS ⟨c.key, false⟩ d)).toArray) ∧ Chg (fun _ => False) W w') := fun W => of_of c.key d nd W
        have KD : Hid (Chg (fun _ => False) wr wr.drew) := (Ext.refl wr).drew.chg _
        by_cases hm : 0 < outs.length
        · obtain ⟨g2, cap2, rfl, hB2, R, hc2⟩ := own_row OW.out hm
          have HB2 := Lib.hid hB2
          have HC2 := Lib.hid hc2
          obtain ⟨m, hm1⟩ : ∃ m, outs.length = m + 1 := ⟨outs.length - 1, by omega⟩
          have lx : ∀ W, Chg (fun _ => False) wr W → Sem.run Try.prog (loadCellsFrom ⟨g2, m * K49, none⟩ 0 K49 #[]) W = .ok (spanCells (outs[m]'(by omega))).toArray W := fun W X => by
            have := (R.chg X id).at.load (show m < outs.length by omega)
            rw [Nat.zero_add] at this
            exact this
          have TO : Hid (∀ W, Calls Try.prog 50 #[.agg (spanCells (outs[m]'(by omega))).toArray] W fun e w' => e = .returned (.string (strBd (toB (outs[m]'(by omega))))) ∧ Ext W w') := fun W => to_of _ W
          have OFB : Hid (∀ W, Calls Try.prog 52 #[.string (strK (outs[m]'(by omega)).fr), .string (strBd d)] W fun e w' => e = .returned (.agg (spanCells (madeS ⟨(outs[m]'(by omega)).fr, false⟩ d)).toArray) ∧ Chg (fun _ => False) W w') := fun W => of_of _ d nd W
          have l1 := strBd_same (toB (outs[m]'(by omega))) c
          have FR : Hid (CellsAt wr g2 (m * 49) (keyCells (outs[m]'(by omega)).fr)) := by
            have := R.at m (by omega)
            rw [Nat.zero_add] at this
            exact spanFr this
          have HR := Lib.hid R
          have HM := Lib.hid hm1
          have W1 := Lib.hid (fun e => whS_set (d := d) (c := c) hm1 e)
          have W2 := Lib.hid (fun e => whS_app (d := d) (c := c) hm1 e)
          generalize hx : outs[m]'(by omega) = x at lx TO OFB l1 FR W1 W2
          clear hx R hm hc2 hB2 nd
          have c1s : ∀ W, Chg (fun _ => False) wr W → W.cell? ⟨b, o + t, none⟩ = some (.string (strK c.key)) := fun W X => by
            rw [← ec]
            exact c1 W (Y9.out.trans X (fun _ _ h => h.elim))
          rw [ec] at l1
          rw [hm1] at OW ⊢
          clear hm1
          have zm : (0 : Int) ≤ (m : Int) := by omega
          have zm1 : (m : Int) < (m : Int) + 1 := by omega
          have wm : IntKind.i64.wrap (m : Int) = (m : Int) := by have := LE.out; have := HM.out; rw [IntKind.wrap_i64]; omega
          by_cases he : nB (toB x) = nB c
          · rw [decide_eq_true he] at l1
            have NX : Hid (whL cuts ins (t + 1) = outs.set m (madeS ⟨x.fr, false⟩ d)) := NX.out.trans (W1.out he)
            clear he c1 W1 W2
            generalize strBd (toB x) = sx at l1 TO
            go_upto_region 7 with fail
            refine wp_region_held_drew (S := fun W => Chg (fun _ => False) wr W) (by kernel_rfl) KD.out (fun hHeld => ?_)
            refine wpAnyH_take (i := 0) (oi := _) (v := ?vb0) rfl (by kernel_rfl) (by kernel_rfl) (by kernel_rfl) (fun _ _ _ h => h) (Or.inl ⟨by rfl, ?yb0⟩) (by assumption) ?rb0
            case yb0 => (intro w hSw; go_simp; try with_reducible rfl)
            (try simp only [List.getElem_toArray, List.getElem_cons_succ, List.getElem_cons_zero, Act.put, List.setIfInBounds_toArray, List.set_cons_zero, List.set_cons_succ])
            refine wpAnyH_take (i := 1) (oi := _) (v := ?vb1) rfl (by kernel_rfl) (by kernel_rfl) (by kernel_rfl) (fun _ _ _ h => h) (Or.inl ⟨by rfl, ?yb1⟩) (by assumption) ?rb1
            case yb1 => (intro w hSw; go_simp; try with_reducible rfl)
            (try simp only [List.getElem_toArray, List.getElem_cons_succ, List.getElem_cons_zero, Act.put, List.setIfInBounds_toArray, List.set_cons_zero, List.set_cons_succ])
            refine wpAnyH_take (i := 2) (oi := _) (v := ?vb2) rfl (by kernel_rfl) (by kernel_rfl) (by kernel_rfl) (fun _ _ _ h => h) (Or.inl ⟨by rfl, ?yb2⟩) (by assumption) ?rb2
            case yb2 => (intro w hSw; go_simp; try with_reducible rfl)
            (try simp only [List.getElem_toArray, List.getElem_cons_succ, List.getElem_cons_zero, Act.put, List.setIfInBounds_toArray, List.set_cons_zero, List.set_cons_succ])
            refine wpAnyH_take (i := 3) (oi := _) (v := ?vb3) rfl (by kernel_rfl) (by kernel_rfl) (by kernel_rfl) (fun _ _ _ h => h) (Or.inl ⟨by rfl, ?yb3⟩) (by assumption) ?rb3
            case yb3 => (intro w hSw; go_simp; try with_reducible rfl)
            (try simp only [List.getElem_toArray, List.getElem_cons_succ, List.getElem_cons_zero, Act.put, List.setIfInBounds_toArray, List.set_cons_zero, List.set_cons_succ])
            refine wpAnyH_take (i := 4) (oi := _) (v := ?vb4) rfl (by kernel_rfl) (by kernel_rfl) (by kernel_rfl) (fun _ _ _ h => h) (Or.inl ⟨by rfl, ?yb4⟩) (by assumption) ?rb4
            case yb4 => (intro w hSw; go_simp; try with_reducible rfl)
            (try simp only [List.getElem_toArray, List.getElem_cons_succ, List.getElem_cons_zero, Act.put, List.setIfInBounds_toArray, List.set_cons_zero, List.set_cons_succ])
            refine wpAnyH_take (i := 5) (oi := _) (v := ?vb5) rfl (by kernel_rfl) (by kernel_rfl) (by kernel_rfl) (fun _ _ _ h => h) (Or.inl ⟨by rfl, ?yb5⟩) (by assumption) ?rb5
            case yb5 => (intro w hSw; go_simp; try with_reducible rfl)
            (try simp only [List.getElem_toArray, List.getElem_cons_succ, List.getElem_cons_zero, Act.put, List.setIfInBounds_toArray, List.set_cons_zero, List.set_cons_succ])
            refine wpAnyH_take (i := 6) (oi := _) (v := ?vb6) rfl (by kernel_rfl) (by kernel_rfl) (by kernel_rfl) (fun _ _ _ h => h) (Or.inl ⟨by rfl, ?yb6⟩) (by assumption) ?rb6
            case yb6 => (intro w hSw; go_simp; try with_reducible rfl)
            (try simp only [List.getElem_toArray, List.getElem_cons_succ, List.getElem_cons_zero, Act.put, List.setIfInBounds_toArray, List.set_cons_zero, List.set_cons_succ])
            refine wpAnyH_take (i := 7) (oi := _) (v := ?vb7) rfl (by kernel_rfl) (by kernel_rfl) (by kernel_rfl) (fun _ _ _ h => h) (Or.inl ⟨by rfl, ?yb7⟩) (by assumption) ?rb7
            case yb7 => (intro w hSw; go_simp; try with_reducible rfl)
            (try simp only [List.getElem_toArray, List.getElem_cons_succ, List.getElem_cons_zero, Act.put, List.setIfInBounds_toArray, List.set_cons_zero, List.set_cons_succ])
            refine wpAnyH_take (i := 9) (oi := _) (v := ?vb9) rfl (by kernel_rfl) (by kernel_rfl) (by kernel_rfl) (fun _ _ _ h => h) (Or.inl ⟨by rfl, ?yb9⟩) (by assumption) ?rb9
            case yb9 => (intro w hSw; go_simp; try with_reducible rfl)
            (try simp only [List.getElem_toArray, List.getElem_cons_succ, List.getElem_cons_zero, Act.put, List.setIfInBounds_toArray, List.set_cons_zero, List.set_cons_succ])
            refine wpAnyH_take (i := 10) (oi := _) (v := ?vb10) rfl (by kernel_rfl) (by kernel_rfl) (by kernel_rfl) (fun _ _ _ h => h) (Or.inl ⟨by rfl, ?yb10⟩) (by assumption) ?rb10
            case yb10 => (intro w hSw; go_simp; try with_reducible rfl)
            (try simp only [List.getElem_toArray, List.getElem_cons_succ, List.getElem_cons_zero, Act.put, List.setIfInBounds_toArray, List.set_cons_zero, List.set_cons_succ])
            refine wpAnyH_take (i := 11) (oi := _) (v := ?vb11) rfl (by kernel_rfl) (by kernel_rfl) (by kernel_rfl) (fun _ _ _ h => h) (Or.inl ⟨by rfl, ?yb11⟩) (by assumption) ?rb11
            case yb11 => (intro w hSw; go_simp; try with_reducible rfl)
            (try simp only [List.getElem_toArray, List.getElem_cons_succ, List.getElem_cons_zero, Act.put, List.setIfInBounds_toArray, List.set_cons_zero, List.set_cons_succ])
            refine wpAnyH_take (i := 12) (oi := _) (v := ?vb12) rfl (by kernel_rfl) (by kernel_rfl) (by kernel_rfl) (fun _ _ _ h => h) (Or.inl ⟨by rfl, ?yb12⟩) (by assumption) ?rb12
            case yb12 => (intro w hSw; go_simp; try with_reducible rfl)
            (try simp only [List.getElem_toArray, List.getElem_cons_succ, List.getElem_cons_zero, Act.put, List.setIfInBounds_toArray, List.set_cons_zero, List.set_cons_succ])
            refine wpAnyH_ready (rs := [8]) (by kernel_rfl) (by simp) ?_
            refine AllReadyH.cons (o := _) rfl (fun K hK => ?_) AllReadyH.nil
            (try simp only [List.getElem_toArray, List.getElem_cons_succ, List.getElem_cons_zero])
            go_simp
            refine (TO.out _).mono ?_
            rintro e wA ⟨rfl, XA⟩
            have XA : Hid (Chg (fun _ => False) wr wA) := KD.out.trans (XA.chg _) (fun _ _ h => h)
            refine hK.out _ _ ?_ (fun hHeld => ?_)
            · exact XA.out
            clear hK K
            (try simp only [List.getElem_toArray, List.getElem_cons_succ, List.getElem_cons_zero, Act.put, List.setIfInBounds_toArray, List.set_cons_zero, List.set_cons_succ])
            refine wpAnyH_take (i := 13) (oi := _) (v := ?vb13) rfl (by kernel_rfl) (by kernel_rfl) (by kernel_rfl) (fun _ _ _ h => h) (Or.inl ⟨by rfl, ?yb13⟩) (by assumption) ?rb13
            case yb13 => (intro w hSw; go_simp; try with_reducible rfl)
            (try simp only [List.getElem_toArray, List.getElem_cons_succ, List.getElem_cons_zero, Act.put, List.setIfInBounds_toArray, List.set_cons_zero, List.set_cons_succ])
            refine wpAnyH_take (i := 14) (oi := _) (v := ?vb14) rfl (by kernel_rfl) (by kernel_rfl) (by kernel_rfl) (fun _ _ _ h => h) (Or.inl ⟨by rfl, ?yb14⟩) (by assumption) ?rb14
            case yb14 => (intro w hSw; go_simp; try with_reducible rfl)
            (try simp only [List.getElem_toArray, List.getElem_cons_succ, List.getElem_cons_zero, Act.put, List.setIfInBounds_toArray, List.set_cons_zero, List.set_cons_succ])
            refine wpAnyH_done (by kernel_rfl) ?_ _
            clear l1 c1s lx hHeld
            have YA : Hid (Chg (fun i => w.heap.size ≤ i) w wA) := Y9.out.trans XA.out (fun _ _ h => h.elim)
            have K8 : Hid (Chg (fun i => w.heap.size ≤ i) w wA.drew ∧ CellsAt wA.drew g2 (m * 49) (keyCells x.fr)) := ⟨YA.out.drew, ((Ext.refl wA).drew.chg (fun _ => False)).cells (XA.out.cells FR.out id) id⟩
            have v46 : ∀ W, (Chg (fun i => w.heap.size ≤ i) w W ∧ CellsAt W g2 (m * 49) (keyCells x.fr)) → (convert 50 9 (.slice (some ⟨g2, m * K49, none⟩) 24 24)).run Try.prog W = .ok (.string (strK x.fr)) W := fun W h => conv_key x.fr W g2 (m * 49) 24 h.2
            have d1s : ∀ W, (Chg (fun i => w.heap.size ≤ i) w W ∧ CellsAt W g2 (m * 49) (keyCells x.fr)) → W.cell? ⟨b, o + (t + 1), none⟩ = some (.string (strBd d)) := fun W h => d1 W h.1
            clear d1
            go_upto_region 8 with fail
            refine wp_region_held_drew (S := fun W => Chg (fun i => w.heap.size ≤ i) w W ∧ CellsAt W g2 (m * 49) (keyCells x.fr)) (by kernel_rfl) K8.out (fun hHeld => ?_)
            refine wpAnyH_take (i := 0) (oi := _) (v := ?vd0) rfl (by kernel_rfl) (by kernel_rfl) (by kernel_rfl) (fun _ _ _ h => h) (Or.inl ⟨by rfl, ?yd0⟩) (by assumption) ?rd0
            case yd0 => (intro w hSw; go_simp; try with_reducible rfl)
            (try simp only [List.getElem_toArray, List.getElem_cons_succ, List.getElem_cons_zero, Act.put, List.setIfInBounds_toArray, List.set_cons_zero, List.set_cons_succ])
            refine wpAnyH_take (i := 1) (oi := _) (v := ?vd1) rfl (by kernel_rfl) (by kernel_rfl) (by kernel_rfl) (fun _ _ _ h => h) (Or.inl ⟨by rfl, ?yd1⟩) (by assumption) ?rd1
            case yd1 => (intro w hSw; go_simp; try with_reducible rfl)
            (try simp only [List.getElem_toArray, List.getElem_cons_succ, List.getElem_cons_zero, Act.put, List.setIfInBounds_toArray, List.set_cons_zero, List.set_cons_succ])
            refine wpAnyH_take (i := 2) (oi := _) (v := ?vd2) rfl (by kernel_rfl) (by kernel_rfl) (by kernel_rfl) (fun _ _ _ h => h) (Or.inl ⟨by rfl, ?yd2⟩) (by assumption) ?rd2
            case yd2 => (intro w hSw; go_simp; try with_reducible rfl)
            (try simp only [List.getElem_toArray, List.getElem_cons_succ, List.getElem_cons_zero, Act.put, List.setIfInBounds_toArray, List.set_cons_zero, List.set_cons_succ])
            refine wpAnyH_take (i := 3) (oi := _) (v := ?vd3) rfl (by kernel_rfl) (by kernel_rfl) (by kernel_rfl) (fun _ _ _ h => h) (Or.inl ⟨by rfl, ?yd3⟩) (by assumption) ?rd3
            case yd3 => (intro w hSw; go_simp; try with_reducible rfl)
            (try simp only [List.getElem_toArray, List.getElem_cons_succ, List.getElem_cons_zero, Act.put, List.setIfInBounds_toArray, List.set_cons_zero, List.set_cons_succ])
            refine wpAnyH_take (i := 4) (oi := _) (v := ?vd4) rfl (by kernel_rfl) (by kernel_rfl) (by kernel_rfl) (fun _ _ _ h => h) (Or.inl ⟨by rfl, ?yd4⟩) (by assumption) ?rd4
            case yd4 => (intro w hSw; go_simp; try with_reducible rfl)
            (try simp only [List.getElem_toArray, List.getElem_cons_succ, List.getElem_cons_zero, Act.put, List.setIfInBounds_toArray, List.set_cons_zero, List.set_cons_succ])
            refine wpAnyH_take (i := 5) (oi := _) (v := ?vd5) rfl (by kernel_rfl) (by kernel_rfl) (by kernel_rfl) (fun _ _ _ h => h) (Or.inl ⟨by rfl, ?yd5⟩) (by assumption) ?rd5
            case yd5 => (intro w hSw; go_simp; try with_reducible rfl)
            (try simp only [List.getElem_toArray, List.getElem_cons_succ, List.getElem_cons_zero, Act.put, List.setIfInBounds_toArray, List.set_cons_zero, List.set_cons_succ])
            refine wpAnyH_take (i := 6) (oi := _) (v := ?vd6) rfl (by kernel_rfl) (by kernel_rfl) (by kernel_rfl) (fun _ _ _ h => h) (Or.inl ⟨by rfl, ?yd6⟩) (by assumption) ?rd6
            case yd6 => (intro w hSw; go_simp; try with_reducible rfl)
            (try simp only [List.getElem_toArray, List.getElem_cons_succ, List.getElem_cons_zero, Act.put, List.setIfInBounds_toArray, List.set_cons_zero, List.set_cons_succ])
            refine wpAnyH_take (i := 7) (oi := _) (v := ?vd7) rfl (by kernel_rfl) (by kernel_rfl) (by kernel_rfl) (fun _ _ _ h => h) (Or.inl ⟨by rfl, ?yd7⟩) (by assumption) ?rd7
            case yd7 => (intro w hSw; go_simp; try with_reducible rfl)
            (try simp only [List.getElem_toArray, List.getElem_cons_succ, List.getElem_cons_zero, Act.put, List.setIfInBounds_toArray, List.set_cons_zero, List.set_cons_succ])
            refine wpAnyH_take (i := 8) (oi := _) (v := ?vd8) rfl (by kernel_rfl) (by kernel_rfl) (by kernel_rfl) (fun _ _ _ h => h) (Or.inl ⟨by rfl, ?yd8⟩) (by assumption) ?rd8
            case yd8 => (intro w hSw; go_simp; try with_reducible rfl)
            (try simp only [List.getElem_toArray, List.getElem_cons_succ, List.getElem_cons_zero, Act.put, List.setIfInBounds_toArray, List.set_cons_zero, List.set_cons_succ])
            refine wpAnyH_take (i := 9) (oi := _) (v := ?vd9) rfl (by kernel_rfl) (by kernel_rfl) (by kernel_rfl) (fun _ _ _ h => h) (Or.inl ⟨by rfl, ?yd9⟩) (by assumption) ?rd9
            case yd9 => (intro w hSw; go_simp; try with_reducible rfl)
            (try simp only [List.getElem_toArray, List.getElem_cons_succ, List.getElem_cons_zero, Act.put, List.setIfInBounds_toArray, List.set_cons_zero, List.set_cons_succ])
            refine wpAnyH_take (i := 10) (oi := _) (v := ?vd10) rfl (by kernel_rfl) (by kernel_rfl) (by kernel_rfl) (fun _ _ _ h => h) (Or.inl ⟨by rfl, ?yd10⟩) (by assumption) ?rd10
            case yd10 => (intro w hSw; go_simp; try with_reducible rfl)
            (try simp only [List.getElem_toArray, List.getElem_cons_succ, List.getElem_cons_zero, Act.put, List.setIfInBounds_toArray, List.set_cons_zero, List.set_cons_succ])
            refine wpAnyH_take (i := 11) (oi := _) (v := ?vd11) rfl (by kernel_rfl) (by kernel_rfl) (by kernel_rfl) (fun _ _ _ h => h) (Or.inl ⟨by rfl, ?yd11⟩) (by assumption) ?rd11
            case yd11 => (intro w hSw; go_simp; try with_reducible rfl)
            (try simp only [List.getElem_toArray, List.getElem_cons_succ, List.getElem_cons_zero, Act.put, List.setIfInBounds_toArray, List.set_cons_zero, List.set_cons_succ])
            refine wpAnyH_take (i := 12) (oi := _) (v := ?vd12) rfl (by kernel_rfl) (by kernel_rfl) (by kernel_rfl) (fun _ _ _ h => h) (Or.inl ⟨by rfl, ?yd12⟩) (by assumption) ?rd12
            case yd12 => (intro w hSw; go_simp; try with_reducible rfl)
            (try simp only [List.getElem_toArray, List.getElem_cons_succ, List.getElem_cons_zero, Act.put, List.setIfInBounds_toArray, List.set_cons_zero, List.set_cons_succ])
            refine wpAnyH_take (i := 13) (oi := _) (v := ?vd13) rfl (by kernel_rfl) (by kernel_rfl) (by kernel_rfl) (fun _ _ _ h => h) (Or.inl ⟨by rfl, ?yd13⟩) (by assumption) ?rd13
            case yd13 => (intro w hSw; go_simp; try with_reducible rfl)
            (try simp only [List.getElem_toArray, List.getElem_cons_succ, List.getElem_cons_zero, Act.put, List.setIfInBounds_toArray, List.set_cons_zero, List.set_cons_succ])
            refine wpAnyH_take (i := 14) (oi := _) (v := ?vd14) rfl (by kernel_rfl) (by kernel_rfl) (by kernel_rfl) (fun _ _ _ h => h) (Or.inl ⟨by rfl, ?yd14⟩) (by assumption) ?rd14
            case yd14 => (intro w hSw; go_simp; try with_reducible rfl)
            (try simp only [List.getElem_toArray, List.getElem_cons_succ, List.getElem_cons_zero, Act.put, List.setIfInBounds_toArray, List.set_cons_zero, List.set_cons_succ])
            refine wpAnyH_ready (rs := [15]) (by kernel_rfl) (by simp) ?_
            refine AllReadyH.cons (o := _) rfl (fun K hK => ?_) AllReadyH.nil
            (try simp only [List.getElem_toArray, List.getElem_cons_succ, List.getElem_cons_zero])
            go_simp
            refine (OFB.out _).mono ?_
            rintro e wB ⟨rfl, XB⟩
            have RB : RowB wB g2 cap2 outs := ((HR.out.chg XA.out id).ext (Ext.refl _).drew).chg XB id
            obtain ⟨w9, e9, R9, C9⟩ := RB.put (show m < outs.length by have := HM.out; omega) (madeS ⟨x.fr, false⟩ d)
            have sl : (spanCells (madeS ⟨x.fr, false⟩ d)).length = K49 := spanCells_length _
            have R9 := Lib.hid R9
            have C9 := Lib.hid C9
            clear RB
            have HH : Hid (Chg (fun i => w.heap.size ≤ i) w wB ∧ CellsAt wB g2 (m * 49) (keyCells x.fr)) := ⟨hHeld.1.trans XB (fun _ _ h => h.elim), XB.cells hHeld.2 id⟩
            refine hK.out _ _ ?_ (fun hHeld => ?_)
            · exact HH.out
            clear hK K
            (try simp only [List.getElem_toArray, List.getElem_cons_succ, List.getElem_cons_zero, Act.put, List.setIfInBounds_toArray, List.set_cons_zero, List.set_cons_succ])
            refine wpAnyH_take (i := 16) (oi := _) (v := ?vd16) rfl (by kernel_rfl) (by kernel_rfl) (by kernel_rfl) (fun _ _ _ h => h) (Or.inl ⟨by rfl, ?yd16⟩) (by assumption) ?rd16
            case yd16 => (intro w hSw; go_simp; try with_reducible rfl)
            (try simp only [List.getElem_toArray, List.getElem_cons_succ, List.getElem_cons_zero, Act.put, List.setIfInBounds_toArray, List.set_cons_zero, List.set_cons_succ])
            refine wpAnyH_ready (rs := [17]) (by kernel_rfl) (by simp) ?_
            refine AllReadyH.cons (o := _) rfl (fun K hK => ?_) AllReadyH.nil
            (try simp only [List.getElem_toArray, List.getElem_cons_succ, List.getElem_cons_zero])
            go_simp
            skip
            refine hK.out _ _ ?_ (fun hHeld => ?_)
            · exact ⟨HH.out.1.trans C9.out (fun i hi (e : i = g2) => e ▸ HB2.out), R9.out.fr (by have := HM.out; omega)⟩
            clear hK K
            (try simp only [List.getElem_toArray, List.getElem_cons_succ, List.getElem_cons_zero, Act.put, List.setIfInBounds_toArray, List.set_cons_zero, List.set_cons_succ])
            refine wpAnyH_done (by kernel_rfl) ?_ _
            clear v46 d1s
            have C9 : Hid (Chg (fun _ => False) w w9) := hHeld.1.mono (fun i hi h => by omega)
            go_wp2
            go_roundg (n - (t + 1))
            case measure => omega
            case rel =>
              refine ⟨t + 1, by go_num, by omega, Nat.le_refl _, ?_, C9.out⟩
              show World.ownsRow _ _ _ _ _ _ _
              rw [NX.out]
              have := row_own (B := w.heap.size) R9.out HC2.out HB2.out
              rw [List.length_set, HM.out] at this ⊢
              exact this
          · rw [decide_eq_false he] at l1
            have NX : Hid (whL cuts ins (t + 1) = outs ++ [madeS ⟨c.key, false⟩ d]) := NX.out.trans (W2.out he)
            clear he W1 W2 OFB
            generalize strBd (toB x) = sx at l1 TO
            go_upto_region 7 with fail
            refine wp_region_held_drew (S := fun W => Chg (fun _ => False) wr W) (by kernel_rfl) KD.out (fun hHeld => ?_)
            refine wpAnyH_take (i := 0) (oi := _) (v := ?vc0) rfl (by kernel_rfl) (by kernel_rfl) (by kernel_rfl) (fun _ _ _ h => h) (Or.inl ⟨by rfl, ?yc0⟩) (by assumption) ?rc0
            case yc0 => (intro w hSw; go_simp; try with_reducible rfl)
            (try simp only [List.getElem_toArray, List.getElem_cons_succ, List.getElem_cons_zero, Act.put, List.setIfInBounds_toArray, List.set_cons_zero, List.set_cons_succ])
            refine wpAnyH_take (i := 1) (oi := _) (v := ?vc1) rfl (by kernel_rfl) (by kernel_rfl) (by kernel_rfl) (fun _ _ _ h => h) (Or.inl ⟨by rfl, ?yc1⟩) (by assumption) ?rc1
            case yc1 => (intro w hSw; go_simp; try with_reducible rfl)
            (try simp only [List.getElem_toArray, List.getElem_cons_succ, List.getElem_cons_zero, Act.put, List.setIfInBounds_toArray, List.set_cons_zero, List.set_cons_succ])
            refine wpAnyH_take (i := 2) (oi := _) (v := ?vc2) rfl (by kernel_rfl) (by kernel_rfl) (by kernel_rfl) (fun _ _ _ h => h) (Or.inl ⟨by rfl, ?yc2⟩) (by assumption) ?rc2
            case yc2 => (intro w hSw; go_simp; try with_reducible rfl)
            (try simp only [List.getElem_toArray, List.getElem_cons_succ, List.getElem_cons_zero, Act.put, List.setIfInBounds_toArray, List.set_cons_zero, List.set_cons_succ])
            refine wpAnyH_take (i := 3) (oi := _) (v := ?vc3) rfl (by kernel_rfl) (by kernel_rfl) (by kernel_rfl) (fun _ _ _ h => h) (Or.inl ⟨by rfl, ?yc3⟩) (by assumption) ?rc3
            case yc3 => (intro w hSw; go_simp; try with_reducible rfl)
            (try simp only [List.getElem_toArray, List.getElem_cons_succ, List.getElem_cons_zero, Act.put, List.setIfInBounds_toArray, List.set_cons_zero, List.set_cons_succ])
            refine wpAnyH_take (i := 4) (oi := _) (v := ?vc4) rfl (by kernel_rfl) (by kernel_rfl) (by kernel_rfl) (fun _ _ _ h => h) (Or.inl ⟨by rfl, ?yc4⟩) (by assumption) ?rc4
            case yc4 => (intro w hSw; go_simp; try with_reducible rfl)
            (try simp only [List.getElem_toArray, List.getElem_cons_succ, List.getElem_cons_zero, Act.put, List.setIfInBounds_toArray, List.set_cons_zero, List.set_cons_succ])
            refine wpAnyH_take (i := 5) (oi := _) (v := ?vc5) rfl (by kernel_rfl) (by kernel_rfl) (by kernel_rfl) (fun _ _ _ h => h) (Or.inl ⟨by rfl, ?yc5⟩) (by assumption) ?rc5
            case yc5 => (intro w hSw; go_simp; try with_reducible rfl)
            (try simp only [List.getElem_toArray, List.getElem_cons_succ, List.getElem_cons_zero, Act.put, List.setIfInBounds_toArray, List.set_cons_zero, List.set_cons_succ])
            refine wpAnyH_take (i := 6) (oi := _) (v := ?vc6) rfl (by kernel_rfl) (by kernel_rfl) (by kernel_rfl) (fun _ _ _ h => h) (Or.inl ⟨by rfl, ?yc6⟩) (by assumption) ?rc6
            case yc6 => (intro w hSw; go_simp; try with_reducible rfl)
            (try simp only [List.getElem_toArray, List.getElem_cons_succ, List.getElem_cons_zero, Act.put, List.setIfInBounds_toArray, List.set_cons_zero, List.set_cons_succ])
            refine wpAnyH_take (i := 7) (oi := _) (v := ?vc7) rfl (by kernel_rfl) (by kernel_rfl) (by kernel_rfl) (fun _ _ _ h => h) (Or.inl ⟨by rfl, ?yc7⟩) (by assumption) ?rc7
            case yc7 => (intro w hSw; go_simp; try with_reducible rfl)
            (try simp only [List.getElem_toArray, List.getElem_cons_succ, List.getElem_cons_zero, Act.put, List.setIfInBounds_toArray, List.set_cons_zero, List.set_cons_succ])
            refine wpAnyH_take (i := 9) (oi := _) (v := ?vc9) rfl (by kernel_rfl) (by kernel_rfl) (by kernel_rfl) (fun _ _ _ h => h) (Or.inl ⟨by rfl, ?yc9⟩) (by assumption) ?rc9
            case yc9 => (intro w hSw; go_simp; try with_reducible rfl)
            (try simp only [List.getElem_toArray, List.getElem_cons_succ, List.getElem_cons_zero, Act.put, List.setIfInBounds_toArray, List.set_cons_zero, List.set_cons_succ])
            refine wpAnyH_take (i := 10) (oi := _) (v := ?vc10) rfl (by kernel_rfl) (by kernel_rfl) (by kernel_rfl) (fun _ _ _ h => h) (Or.inl ⟨by rfl, ?yc10⟩) (by assumption) ?rc10
            case yc10 => (intro w hSw; go_simp; try with_reducible rfl)
            (try simp only [List.getElem_toArray, List.getElem_cons_succ, List.getElem_cons_zero, Act.put, List.setIfInBounds_toArray, List.set_cons_zero, List.set_cons_succ])
            refine wpAnyH_take (i := 11) (oi := _) (v := ?vc11) rfl (by kernel_rfl) (by kernel_rfl) (by kernel_rfl) (fun _ _ _ h => h) (Or.inl ⟨by rfl, ?yc11⟩) (by assumption) ?rc11
            case yc11 => (intro w hSw; go_simp; try with_reducible rfl)
            (try simp only [List.getElem_toArray, List.getElem_cons_succ, List.getElem_cons_zero, Act.put, List.setIfInBounds_toArray, List.set_cons_zero, List.set_cons_succ])
            refine wpAnyH_take (i := 12) (oi := _) (v := ?vc12) rfl (by kernel_rfl) (by kernel_rfl) (by kernel_rfl) (fun _ _ _ h => h) (Or.inl ⟨by rfl, ?yc12⟩) (by assumption) ?rc12
            case yc12 => (intro w hSw; go_simp; try with_reducible rfl)
            (try simp only [List.getElem_toArray, List.getElem_cons_succ, List.getElem_cons_zero, Act.put, List.setIfInBounds_toArray, List.set_cons_zero, List.set_cons_succ])
            refine wpAnyH_ready (rs := [8]) (by kernel_rfl) (by simp) ?_
            refine AllReadyH.cons (o := _) rfl (fun K hK => ?_) AllReadyH.nil
            (try simp only [List.getElem_toArray, List.getElem_cons_succ, List.getElem_cons_zero])
            go_simp
            refine (TO.out _).mono ?_
            rintro e wA ⟨rfl, XA⟩
            have XA : Hid (Chg (fun _ => False) wr wA) := KD.out.trans (XA.chg _) (fun _ _ h => h)
            refine hK.out _ _ ?_ (fun hHeld => ?_)
            · exact XA.out
            clear hK K
            (try simp only [List.getElem_toArray, List.getElem_cons_succ, List.getElem_cons_zero, Act.put, List.setIfInBounds_toArray, List.set_cons_zero, List.set_cons_succ])
            refine wpAnyH_take (i := 13) (oi := _) (v := ?vc13) rfl (by kernel_rfl) (by kernel_rfl) (by kernel_rfl) (fun _ _ _ h => h) (Or.inl ⟨by rfl, ?yc13⟩) (by assumption) ?rc13
            case yc13 => (intro w hSw; go_simp; try with_reducible rfl)
            (try simp only [List.getElem_toArray, List.getElem_cons_succ, List.getElem_cons_zero, Act.put, List.setIfInBounds_toArray, List.set_cons_zero, List.set_cons_succ])
            refine wpAnyH_take (i := 14) (oi := _) (v := ?vc14) rfl (by kernel_rfl) (by kernel_rfl) (by kernel_rfl) (fun _ _ _ h => h) (Or.inl ⟨by rfl, ?yc14⟩) (by assumption) ?rc14
            case yc14 => (intro w hSw; go_simp; try with_reducible rfl)
            (try simp only [List.getElem_toArray, List.getElem_cons_succ, List.getElem_cons_zero, Act.put, List.setIfInBounds_toArray, List.set_cons_zero, List.set_cons_succ])
            refine wpAnyH_done (by kernel_rfl) ?_ _
            clear l1 c1s lx hHeld
            have K9 : Hid (Chg (fun i => w.heap.size ≤ i) w wA.drew) := (Y9.out.trans XA.out (fun _ _ h => h.elim)).drew
            have OWA := Lib.hid (XA.out.owns OW.out (fun _ _ h => h))
            obtain ⟨no, hno⟩ : ∃ no, no = m + 1 := ⟨_, rfl⟩
            have OWA : Hid (wA.ownsRow w.heap.size 28 49 (.slice (some ⟨g2, 0, none⟩) (m + 1) cap2) no (flat spanCells outs)) := by rw [hno]; exact OWA
            have NO : Hid (no ≤ 1000) := by have := LE.out; have := HM.out; show _ ≤ _; omega
            rw [ec] at c1
            go_upto_region 9 with fail
            refine wp_region_held_drew (S := fun W => Chg (fun i => w.heap.size ≤ i) w W) (by kernel_rfl) K9.out (fun hHeld => ?_)
            refine wpAnyH_take (i := 0) (oi := _) (v := ?vf0) rfl (by kernel_rfl) (by kernel_rfl) (by kernel_rfl) (fun _ _ _ h => h) (Or.inl ⟨by rfl, ?yf0⟩) (by assumption) ?rf0
            case yf0 => (intro w hSw; go_simp; try with_reducible rfl)
            (try simp only [List.getElem_toArray, List.getElem_cons_succ, List.getElem_cons_zero, Act.put, List.setIfInBounds_toArray, List.set_cons_zero, List.set_cons_succ])
            refine wpAnyH_take (i := 1) (oi := _) (v := ?vf1) rfl (by kernel_rfl) (by kernel_rfl) (by kernel_rfl) (fun _ _ _ h => h) (Or.inl ⟨by rfl, ?yf1⟩) (by assumption) ?rf1
            case yf1 => (intro w hSw; go_simp; try with_reducible rfl)
            (try simp only [List.getElem_toArray, List.getElem_cons_succ, List.getElem_cons_zero, Act.put, List.setIfInBounds_toArray, List.set_cons_zero, List.set_cons_succ])
            refine wpAnyH_take (i := 2) (oi := _) (v := ?vf2) rfl (by kernel_rfl) (by kernel_rfl) (by kernel_rfl) (fun _ _ _ h => h) (Or.inl ⟨by rfl, ?yf2⟩) (by assumption) ?rf2
            case yf2 => (intro w hSw; go_simp; try with_reducible rfl)
            (try simp only [List.getElem_toArray, List.getElem_cons_succ, List.getElem_cons_zero, Act.put, List.setIfInBounds_toArray, List.set_cons_zero, List.set_cons_succ])
            refine wpAnyH_take (i := 3) (oi := _) (v := ?vf3) rfl (by kernel_rfl) (by kernel_rfl) (by kernel_rfl) (fun _ _ _ h => h) (Or.inl ⟨by rfl, ?yf3⟩) (by assumption) ?rf3
            case yf3 => (intro w hSw; go_simp; try with_reducible rfl)
            (try simp only [List.getElem_toArray, List.getElem_cons_succ, List.getElem_cons_zero, Act.put, List.setIfInBounds_toArray, List.set_cons_zero, List.set_cons_succ])
            refine wpAnyH_take (i := 4) (oi := _) (v := ?vf4) rfl (by kernel_rfl) (by kernel_rfl) (by kernel_rfl) (fun _ _ _ h => h) (Or.inl ⟨by rfl, ?yf4⟩) (by assumption) ?rf4
            case yf4 => (intro w hSw; go_simp; try with_reducible rfl)
            (try simp only [List.getElem_toArray, List.getElem_cons_succ, List.getElem_cons_zero, Act.put, List.setIfInBounds_toArray, List.set_cons_zero, List.set_cons_succ])
            refine wpAnyH_take (i := 5) (oi := _) (v := ?vf5) rfl (by kernel_rfl) (by kernel_rfl) (by kernel_rfl) (fun _ _ _ h => h) (Or.inl ⟨by rfl, ?yf5⟩) (by assumption) ?rf5
            case yf5 => (intro w hSw; go_simp; try with_reducible rfl)
            (try simp only [List.getElem_toArray, List.getElem_cons_succ, List.getElem_cons_zero, Act.put, List.setIfInBounds_toArray, List.set_cons_zero, List.set_cons_succ])
            refine wpAnyH_take (i := 6) (oi := _) (v := ?vf6) rfl (by kernel_rfl) (by kernel_rfl) (by kernel_rfl) (fun _ _ _ h => h) (Or.inl ⟨by rfl, ?yf6⟩) (by assumption) ?rf6
            case yf6 => (intro w hSw; go_simp; try with_reducible rfl)
            (try simp only [List.getElem_toArray, List.getElem_cons_succ, List.getElem_cons_zero, Act.put, List.setIfInBounds_toArray, List.set_cons_zero, List.set_cons_succ])
            refine wpAnyH_take (i := 7) (oi := _) (v := ?vf7) rfl (by kernel_rfl) (by kernel_rfl) (by kernel_rfl) (fun _ _ _ h => h) (Or.inl ⟨by rfl, ?yf7⟩) (by assumption) ?rf7
            case yf7 => (intro w hSw; go_simp; try with_reducible rfl)
            (try simp only [List.getElem_toArray, List.getElem_cons_succ, List.getElem_cons_zero, Act.put, List.setIfInBounds_toArray, List.set_cons_zero, List.set_cons_succ])
            refine wpAnyH_take (i := 8) (oi := _) (v := ?vf8) rfl (by kernel_rfl) (by kernel_rfl) (by kernel_rfl) (fun _ _ _ h => h) (Or.inl ⟨by rfl, ?yf8⟩) (by assumption) ?rf8
            case yf8 => (intro w hSw; go_simp; try with_reducible rfl)
            (try simp only [List.getElem_toArray, List.getElem_cons_succ, List.getElem_cons_zero, Act.put, List.setIfInBounds_toArray, List.set_cons_zero, List.set_cons_succ])
            refine wpAnyH_take (i := 9) (oi := _) (v := ?vf9) rfl (by kernel_rfl) (by kernel_rfl) (by kernel_rfl) (fun _ _ _ h => h) (Or.inl ⟨by rfl, ?yf9⟩) (by assumption) ?rf9
            case yf9 => (intro w hSw; go_simp; try with_reducible rfl)
            (try simp only [List.getElem_toArray, List.getElem_cons_succ, List.getElem_cons_zero, Act.put, List.setIfInBounds_toArray, List.set_cons_zero, List.set_cons_succ])
            refine wpAnyH_ready (rs := [10]) (by kernel_rfl) (by simp) ?_
            refine AllReadyH.cons (o := _) rfl (fun K hK => ?_) AllReadyH.nil
            (try simp only [List.getElem_toArray, List.getElem_cons_succ, List.getElem_cons_zero])
            go_simp
            refine (OFC.out _).mono ?_
            rintro e wB ⟨rfl, XB⟩
            have HH : Hid (Chg (fun i => w.heap.size ≤ i) w wB) := hHeld.trans XB (fun _ _ h => h.elim)
            have OWB : Hid (wB.ownsRow w.heap.size 28 49 (.slice (some ⟨g2, 0, none⟩) (m + 1) cap2) no (flat spanCells outs)) := XB.owns (((Ext.refl _).drew.chg (fun _ => False)).owns OWA.out (fun _ _ h => h)) (fun _ _ h => h)
            refine hK.out _ _ ?_ (fun hHeld => ?_)
            · exact HH.out
            clear hK K
            (try simp only [List.getElem_toArray, List.getElem_cons_succ, List.getElem_cons_zero, Act.put, List.setIfInBounds_toArray, List.set_cons_zero, List.set_cons_succ])
            refine wpAnyH_ready (rs := [11]) (by kernel_rfl) (by simp) ?_
            refine AllReadyH.cons (o := _) rfl (fun K hK => ?_) AllReadyH.nil
            (try simp only [List.getElem_toArray, List.getElem_cons_succ, List.getElem_cons_zero])
            go_simp
            skip
            refine hK.out _ _ ?_ (fun hHeld => ?_)
            · exact HH.out.trans (chg_alloc _ _ _) (fun _ _ h => h)
            clear hK K
            (try simp only [List.getElem_toArray, List.getElem_cons_succ, List.getElem_cons_zero, Act.put, List.setIfInBounds_toArray, List.set_cons_zero, List.set_cons_succ])
            refine wpAnyH_ready (rs := [12]) (by kernel_rfl) (by simp) ?_
            refine AllReadyH.cons (o := _) rfl (fun K hK => ?_) AllReadyH.nil
            obtain ⟨v6, w6, ha, own6, ch6⟩ := app_span (s := madeS ⟨c.key, false⟩ d) ((chg_alloc wB (.cells (spanCells (madeS ⟨c.key, false⟩ d)).toArray 28) (fun _ => False)).owns OWB.out (fun _ _ h => h)) (by have := HH.out.size; rw [World.size_alloc]; omega) wB.heap.size (cellsAt_new wB _ 28) (by have := NO.out; omega)
            have own6 := Lib.hid own6
            have ch6 := Lib.hid ch6
            refine step_append_run (by rfl) _ _ 22 (by rfl) (.slice (some ⟨g2, 0, none⟩) (m + 1) cap2) (.slice (some ⟨wB.heap.size, 0, none⟩) 1 1) (by first | rfl | (rw [World.size_alloc]; rfl)) (by first | rfl | (rw [World.size_alloc]; rfl)) ha (hK.out _ _ ?_ (fun hHeld => ?_))
            · exact HH.out.trans ((chg_alloc _ _ _).trans ch6.out (fun _ _ h => h)) (fun _ _ h => h)
            clear hK K
            (try simp only [List.getElem_toArray, List.getElem_cons_succ, List.getElem_cons_zero, Act.put, List.setIfInBounds_toArray, List.set_cons_zero, List.set_cons_succ])
            refine wpAnyH_take (i := 13) (oi := _) (v := ?vf13) rfl (by kernel_rfl) (by kernel_rfl) (by kernel_rfl) (fun _ _ _ h => h) (Or.inl ⟨by rfl, ?yf13⟩) (by assumption) ?rf13
            case yf13 => (intro w hSw; go_simp; try with_reducible rfl)
            (try simp only [List.getElem_toArray, List.getElem_cons_succ, List.getElem_cons_zero, Act.put, List.setIfInBounds_toArray, List.set_cons_zero, List.set_cons_succ])
            refine wpAnyH_done (by kernel_rfl) ?_ _
            clear c1 d1
            have C9 : Hid (Chg (fun _ => False) w w6) := hHeld.mono (fun i hi h => by omega)
            go_wp2
            go_roundg (n - (t + 1))
            case measure => omega
            case rel =>
              refine ⟨t + 1, by go_num, by omega, Nat.le_refl _, ?_, C9.out⟩
              show World.ownsRow _ _ _ _ _ _ _
              rw [NX.out, List.length_append, HM.out, ← hno]
              exact own6.out
        · have NX : Hid (whL cuts ins (t + 1) = outs ++ [madeS ⟨c.key, false⟩ d]) := NX.out.trans (whS_nil hm)
          have hm0 : outs.length = 0 := by omega
          rw [hm0] at OW
          obtain ⟨a0, c0, hv⟩ := owns_len OW.out
          subst hv
          have HM := Lib.hid hm0
          clear hm hm0 nd
          go_upto_region 7 with fail
          refine wp_region_held_drew (S := fun W => Chg (fun _ => False) wr W) (by kernel_rfl) KD.out (fun hHeld => ?_)
          refine wpAnyH_take (i := 0) (oi := _) (v := ?va0) rfl (by kernel_rfl) (by kernel_rfl) (by kernel_rfl) (fun _ _ _ h => h) (Or.inl ⟨by rfl, ?ya0⟩) (by assumption) ?ra0
          case ya0 => (intro w hSw; go_simp; try with_reducible rfl)
          (try simp only [List.getElem_toArray, List.getElem_cons_succ, List.getElem_cons_zero, Act.put, List.setIfInBounds_toArray, List.set_cons_zero, List.set_cons_succ])
          refine wpAnyH_take (i := 1) (oi := _) (v := ?va1) rfl (by kernel_rfl) (by kernel_rfl) (by kernel_rfl) (fun _ _ _ h => h) (Or.inl ⟨by rfl, ?ya1⟩) (by assumption) ?ra1
          case ya1 => (intro w hSw; go_simp; try with_reducible rfl)
          (try simp only [List.getElem_toArray, List.getElem_cons_succ, List.getElem_cons_zero, Act.put, List.setIfInBounds_toArray, List.set_cons_zero, List.set_cons_succ])
          refine wpAnyH_take (i := 2) (oi := _) (v := ?va2) rfl (by kernel_rfl) (by kernel_rfl) (by kernel_rfl) (fun _ _ _ h => h) (Or.inl ⟨by rfl, ?ya2⟩) (by assumption) ?ra2
          case ya2 => (intro w hSw; go_simp; try with_reducible rfl)
          (try simp only [List.getElem_toArray, List.getElem_cons_succ, List.getElem_cons_zero, Act.put, List.setIfInBounds_toArray, List.set_cons_zero, List.set_cons_succ])
          refine wpAnyH_take (i := 3) (oi := _) (v := undef) rfl (by kernel_rfl) (by kernel_rfl) (by kernel_rfl) (fun _ _ _ h => h) (Or.inr ⟨by rfl, rfl⟩) (by assumption) ?ra3
          (try simp only [List.getElem_toArray, List.getElem_cons_succ, List.getElem_cons_zero, Act.put, List.setIfInBounds_toArray, List.set_cons_zero, List.set_cons_succ])
          refine wpAnyH_take (i := 4) (oi := _) (v := undef) rfl (by kernel_rfl) (by kernel_rfl) (by kernel_rfl) (fun _ _ _ h => h) (Or.inr ⟨by rfl, rfl⟩) (by assumption) ?ra4
          (try simp only [List.getElem_toArray, List.getElem_cons_succ, List.getElem_cons_zero, Act.put, List.setIfInBounds_toArray, List.set_cons_zero, List.set_cons_succ])
          refine wpAnyH_take (i := 5) (oi := _) (v := undef) rfl (by kernel_rfl) (by kernel_rfl) (by kernel_rfl) (fun _ _ _ h => h) (Or.inr ⟨by rfl, rfl⟩) (by assumption) ?ra5
          (try simp only [List.getElem_toArray, List.getElem_cons_succ, List.getElem_cons_zero, Act.put, List.setIfInBounds_toArray, List.set_cons_zero, List.set_cons_succ])
          refine wpAnyH_take (i := 6) (oi := _) (v := undef) rfl (by kernel_rfl) (by kernel_rfl) (by kernel_rfl) (fun _ _ _ h => h) (Or.inr ⟨by rfl, rfl⟩) (by assumption) ?ra6
          (try simp only [List.getElem_toArray, List.getElem_cons_succ, List.getElem_cons_zero, Act.put, List.setIfInBounds_toArray, List.set_cons_zero, List.set_cons_succ])
          refine wpAnyH_take (i := 7) (oi := _) (v := undef) rfl (by kernel_rfl) (by kernel_rfl) (by kernel_rfl) (fun _ _ _ h => h) (Or.inr ⟨by rfl, rfl⟩) (by assumption) ?ra7
          (try simp only [List.getElem_toArray, List.getElem_cons_succ, List.getElem_cons_zero, Act.put, List.setIfInBounds_toArray, List.set_cons_zero, List.set_cons_succ])
          refine wpAnyH_take (i := 8) (oi := _) (v := undef) rfl (by kernel_rfl) (by kernel_rfl) (by kernel_rfl) (fun _ _ _ h => h) (Or.inr ⟨by rfl, rfl⟩) (by assumption) ?ra8
          (try simp only [List.getElem_toArray, List.getElem_cons_succ, List.getElem_cons_zero, Act.put, List.setIfInBounds_toArray, List.set_cons_zero, List.set_cons_succ])
          refine wpAnyH_take (i := 9) (oi := _) (v := undef) rfl (by kernel_rfl) (by kernel_rfl) (by kernel_rfl) (fun _ _ _ h => h) (Or.inr ⟨by rfl, rfl⟩) (by assumption) ?ra9
          (try simp only [List.getElem_toArray, List.getElem_cons_succ, List.getElem_cons_zero, Act.put, List.setIfInBounds_toArray, List.set_cons_zero, List.set_cons_succ])
          refine wpAnyH_take (i := 10) (oi := _) (v := undef) rfl (by kernel_rfl) (by kernel_rfl) (by kernel_rfl) (fun _ _ _ h => h) (Or.inr ⟨by rfl, rfl⟩) (by assumption) ?ra10
          (try simp only [List.getElem_toArray, List.getElem_cons_succ, List.getElem_cons_zero, Act.put, List.setIfInBounds_toArray, List.set_cons_zero, List.set_cons_succ])
          refine wpAnyH_take (i := 11) (oi := _) (v := undef) rfl (by kernel_rfl) (by kernel_rfl) (by kernel_rfl) (fun _ _ _ h => h) (Or.inr ⟨by rfl, rfl⟩) (by assumption) ?ra11
          (try simp only [List.getElem_toArray, List.getElem_cons_succ, List.getElem_cons_zero, Act.put, List.setIfInBounds_toArray, List.set_cons_zero, List.set_cons_succ])
          refine wpAnyH_take (i := 12) (oi := _) (v := undef) rfl (by kernel_rfl) (by kernel_rfl) (by kernel_rfl) (fun _ _ _ h => h) (Or.inr ⟨by rfl, rfl⟩) (by assumption) ?ra12
          (try simp only [List.getElem_toArray, List.getElem_cons_succ, List.getElem_cons_zero, Act.put, List.setIfInBounds_toArray, List.set_cons_zero, List.set_cons_succ])
          refine wpAnyH_take (i := 13) (oi := _) (v := undef) rfl (by kernel_rfl) (by kernel_rfl) (by kernel_rfl) (fun _ _ _ h => h) (Or.inr ⟨by rfl, rfl⟩) (by assumption) ?ra13
          (try simp only [List.getElem_toArray, List.getElem_cons_succ, List.getElem_cons_zero, Act.put, List.setIfInBounds_toArray, List.set_cons_zero, List.set_cons_succ])
          refine wpAnyH_take (i := 14) (oi := _) (v := ?va14) rfl (by kernel_rfl) (by kernel_rfl) (by kernel_rfl) (fun _ _ _ h => h) (Or.inl ⟨by rfl, ?ya14⟩) (by assumption) ?ra14
          case ya14 => (intro w hSw; go_simp; try with_reducible rfl)
          (try simp only [List.getElem_toArray, List.getElem_cons_succ, List.getElem_cons_zero, Act.put, List.setIfInBounds_toArray, List.set_cons_zero, List.set_cons_succ])
          refine wpAnyH_done (by kernel_rfl) ?_ _
          have K9 : Hid (Chg (fun i => w.heap.size ≤ i) w wr.drew.drew) := Y9.out.drew.drew
          obtain ⟨no, hno⟩ : ∃ no, no = 0 := ⟨_, rfl⟩
          have OWA : Hid (wr.drew.ownsRow w.heap.size 28 49 (.slice a0 0 c0) no (flat spanCells outs)) := by rw [hno]; exact ((Ext.refl _).drew.chg (fun _ => False)).owns OW.out (fun _ _ h => h)
          have NO : Hid (no ≤ 1000) := by show _ ≤ _; omega
          rw [ec] at c1
          go_upto_region 9 with fail
          refine wp_region_held_drew (S := fun W => Chg (fun i => w.heap.size ≤ i) w W) (by kernel_rfl) K9.out (fun hHeld => ?_)
          refine wpAnyH_take (i := 0) (oi := _) (v := ?ve0) rfl (by kernel_rfl) (by kernel_rfl) (by kernel_rfl) (fun _ _ _ h => h) (Or.inl ⟨by rfl, ?ye0⟩) (by assumption) ?re0
          case ye0 => (intro w hSw; go_simp; try with_reducible rfl)
          (try simp only [List.getElem_toArray, List.getElem_cons_succ, List.getElem_cons_zero, Act.put, List.setIfInBounds_toArray, List.set_cons_zero, List.set_cons_succ])
          refine wpAnyH_take (i := 1) (oi := _) (v := ?ve1) rfl (by kernel_rfl) (by kernel_rfl) (by kernel_rfl) (fun _ _ _ h => h) (Or.inl ⟨by rfl, ?ye1⟩) (by assumption) ?re1
          case ye1 => (intro w hSw; go_simp; try with_reducible rfl)
          (try simp only [List.getElem_toArray, List.getElem_cons_succ, List.getElem_cons_zero, Act.put, List.setIfInBounds_toArray, List.set_cons_zero, List.set_cons_succ])
          refine wpAnyH_take (i := 2) (oi := _) (v := ?ve2) rfl (by kernel_rfl) (by kernel_rfl) (by kernel_rfl) (fun _ _ _ h => h) (Or.inl ⟨by rfl, ?ye2⟩) (by assumption) ?re2
          case ye2 => (intro w hSw; go_simp; try with_reducible rfl)
          (try simp only [List.getElem_toArray, List.getElem_cons_succ, List.getElem_cons_zero, Act.put, List.setIfInBounds_toArray, List.set_cons_zero, List.set_cons_succ])
          refine wpAnyH_take (i := 3) (oi := _) (v := ?ve3) rfl (by kernel_rfl) (by kernel_rfl) (by kernel_rfl) (fun _ _ _ h => h) (Or.inl ⟨by rfl, ?ye3⟩) (by assumption) ?re3
          case ye3 => (intro w hSw; go_simp; try with_reducible rfl)
          (try simp only [List.getElem_toArray, List.getElem_cons_succ, List.getElem_cons_zero, Act.put, List.setIfInBounds_toArray, List.set_cons_zero, List.set_cons_succ])
          refine wpAnyH_take (i := 4) (oi := _) (v := ?ve4) rfl (by kernel_rfl) (by kernel_rfl) (by kernel_rfl) (fun _ _ _ h => h) (Or.inl ⟨by rfl, ?ye4⟩) (by assumption) ?re4
          case ye4 => (intro w hSw; go_simp; try with_reducible rfl)
          (try simp only [List.getElem_toArray, List.getElem_cons_succ, List.getElem_cons_zero, Act.put, List.setIfInBounds_toArray, List.set_cons_zero, List.set_cons_succ])
          refine wpAnyH_take (i := 5) (oi := _) (v := ?ve5) rfl (by kernel_rfl) (by kernel_rfl) (by kernel_rfl) (fun _ _ _ h => h) (Or.inl ⟨by rfl, ?ye5⟩) (by assumption) ?re5
          case ye5 => (intro w hSw; go_simp; try with_reducible rfl)
          (try simp only [List.getElem_toArray, List.getElem_cons_succ, List.getElem_cons_zero, Act.put, List.setIfInBounds_toArray, List.set_cons_zero, List.set_cons_succ])
          refine wpAnyH_take (i := 6) (oi := _) (v := ?ve6) rfl (by kernel_rfl) (by kernel_rfl) (by kernel_rfl) (fun _ _ _ h => h) (Or.inl ⟨by rfl, ?ye6⟩) (by assumption) ?re6
          case ye6 => (intro w hSw; go_simp; try with_reducible rfl)
          (try simp only [List.getElem_toArray, List.getElem_cons_succ, List.getElem_cons_zero, Act.put, List.setIfInBounds_toArray, List.set_cons_zero, List.set_cons_succ])
          refine wpAnyH_take (i := 7) (oi := _) (v := ?ve7) rfl (by kernel_rfl) (by kernel_rfl) (by kernel_rfl) (fun _ _ _ h => h) (Or.inl ⟨by rfl, ?ye7⟩) (by assumption) ?re7
          case ye7 => (intro w hSw; go_simp; try with_reducible rfl)
          (try simp only [List.getElem_toArray, List.getElem_cons_succ, List.getElem_cons_zero, Act.put, List.setIfInBounds_toArray, List.set_cons_zero, List.set_cons_succ])
          refine wpAnyH_take (i := 8) (oi := _) (v := ?ve8) rfl (by kernel_rfl) (by kernel_rfl) (by kernel_rfl) (fun _ _ _ h => h) (Or.inl ⟨by rfl, ?ye8⟩) (by assumption) ?re8
          case ye8 => (intro w hSw; go_simp; try with_reducible rfl)
          (try simp only [List.getElem_toArray, List.getElem_cons_succ, List.getElem_cons_zero, Act.put, List.setIfInBounds_toArray, List.set_cons_zero, List.set_cons_succ])
          refine wpAnyH_take (i := 9) (oi := _) (v := ?ve9) rfl (by kernel_rfl) (by kernel_rfl) (by kernel_rfl) (fun _ _ _ h => h) (Or.inl ⟨by rfl, ?ye9⟩) (by assumption) ?re9
          case ye9 => (intro w hSw; go_simp; try with_reducible rfl)
          (try simp only [List.getElem_toArray, List.getElem_cons_succ, List.getElem_cons_zero, Act.put, List.setIfInBounds_toArray, List.set_cons_zero, List.set_cons_succ])
          refine wpAnyH_ready (rs := [10]) (by kernel_rfl) (by simp) ?_
          refine AllReadyH.cons (o := _) rfl (fun K hK => ?_) AllReadyH.nil
          (try simp only [List.getElem_toArray, List.getElem_cons_succ, List.getElem_cons_zero])
          go_simp
          refine (OFC.out _).mono ?_
          rintro e wB ⟨rfl, XB⟩
          have HH : Hid (Chg (fun i => w.heap.size ≤ i) w wB) := hHeld.trans XB (fun _ _ h => h.elim)
          have OWB : Hid (wB.ownsRow w.heap.size 28 49 (.slice a0 0 c0) no (flat spanCells outs)) := XB.owns (((Ext.refl _).drew.chg (fun _ => False)).owns OWA.out (fun _ _ h => h)) (fun _ _ h => h)
          refine hK.out _ _ ?_ (fun hHeld => ?_)
          · exact HH.out
          clear hK K
          (try simp only [List.getElem_toArray, List.getElem_cons_succ, List.getElem_cons_zero, Act.put, List.setIfInBounds_toArray, List.set_cons_zero, List.set_cons_succ])
          refine wpAnyH_ready (rs := [11]) (by kernel_rfl) (by simp) ?_
          refine AllReadyH.cons (o := _) rfl (fun K hK => ?_) AllReadyH.nil
          (try simp only [List.getElem_toArray, List.getElem_cons_succ, List.getElem_cons_zero])
          go_simp
          skip
          refine hK.out _ _ ?_ (fun hHeld => ?_)
          · exact HH.out.trans (chg_alloc _ _ _) (fun _ _ h => h)
          clear hK K
          (try simp only [List.getElem_toArray, List.getElem_cons_succ, List.getElem_cons_zero, Act.put, List.setIfInBounds_toArray, List.set_cons_zero, List.set_cons_succ])
          refine wpAnyH_ready (rs := [12]) (by kernel_rfl) (by simp) ?_
          refine AllReadyH.cons (o := _) rfl (fun K hK => ?_) AllReadyH.nil
          obtain ⟨v6, w6, ha, own6, ch6⟩ := app_span (s := madeS ⟨c.key, false⟩ d) ((chg_alloc wB (.cells (spanCells (madeS ⟨c.key, false⟩ d)).toArray 28) (fun _ => False)).owns OWB.out (fun _ _ h => h)) (by have := HH.out.size; rw [World.size_alloc]; omega) wB.heap.size (cellsAt_new wB _ 28) (by have := NO.out; omega)
          have own6 := Lib.hid own6
          have ch6 := Lib.hid ch6
          refine step_append_run (by rfl) _ _ 22 (by rfl) (.slice a0 0 c0) (.slice (some ⟨wB.heap.size, 0, none⟩) 1 1) (by first | rfl | (rw [World.size_alloc]; rfl)) (by first | rfl | (rw [World.size_alloc]; rfl)) ha (hK.out _ _ ?_ (fun hHeld => ?_))
          · exact HH.out.trans ((chg_alloc _ _ _).trans ch6.out (fun _ _ h => h)) (fun _ _ h => h)
          clear hK K
          (try simp only [List.getElem_toArray, List.getElem_cons_succ, List.getElem_cons_zero, Act.put, List.setIfInBounds_toArray, List.set_cons_zero, List.set_cons_succ])
          refine wpAnyH_take (i := 13) (oi := _) (v := ?ve13) rfl (by kernel_rfl) (by kernel_rfl) (by kernel_rfl) (fun _ _ _ h => h) (Or.inl ⟨by rfl, ?ye13⟩) (by assumption) ?re13
          case ye13 => (intro w hSw; go_simp; try with_reducible rfl)
          (try simp only [List.getElem_toArray, List.getElem_cons_succ, List.getElem_cons_zero, Act.put, List.setIfInBounds_toArray, List.set_cons_zero, List.set_cons_succ])
          refine wpAnyH_done (by kernel_rfl) ?_ _
          clear c1 d1
          have C9 : Hid (Chg (fun _ => False) w w6) := hHeld.mono (fun i hi h => by omega)
          go_wp2
          go_roundg (n - (t + 1))
          case measure => omega
          case rel =>
            refine ⟨t + 1, by go_num, by omega, Nat.le_refl _, ?_, C9.out⟩
            show World.ownsRow _ _ _ _ _ _ _
            rw [NX.out, List.length_append, HM.out, ← hno]
            exact own6.out
    · obtain rfl : t = n - 1 := by omega
      have z1 : ¬ ((n - 1 : Nat) : Int) + 1 < (n : Int) := by omega
      go_wp2
      go_ret
      exact ⟨_, rfl, spansIn_own OW.out, Y.out⟩
end Go.Proofs.Ytfeomnkgkppdlaa
