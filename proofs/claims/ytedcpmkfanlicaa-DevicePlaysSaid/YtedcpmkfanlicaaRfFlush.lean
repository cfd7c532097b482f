/- The reference's Flush. -/
import Derived.Test.YtedcpmkfanlicaaRfFalls
set_option linter.unusedVariables false
set_option linter.unusedSimpArgs false
namespace Go.Proofs.Ytedcpmkfanlicaa
open Go Go.RowKit Go.Sort Go.Lib Go.Maps Go.Deep
def flushR (r : Rf) : Rf × Int := if (countR r).2 then ((countR r).1, 11) else ({ (countR r).1 with L := flushL (countR r).1.L, lo := [] }, 0)
def FlAt (L Lt : List Rb) (t : Nat) : Prop := ∀ i : Nat, Lt[i]? = if i < t then (L[i]?).map (fun b => ⟨b.k, b.nw, b.nw⟩) else L[i]?
theorem flat_set1 : ∀ (L : List Rb) (j : Nat) (hj : j < L.length) (s : ByteArray), (flat rbCells L).set (j * 3 + 1) (.string s) = flat rbCells (L.set j ⟨L[j].k, s, L[j].nw⟩)
  | x :: r, 0, _, s => by rw [flat_cons]; rfl
  | x :: r, j + 1, h, s => by
    have ih := flat_set1 r j (by simpa using h) s
    rw [flat_cons, List.set_cons_succ, flat_cons, List.getElem_cons_succ, ← ih, show (j + 1) * 3 + 1 = j * 3 + 1 + 3 by omega]
    rfl
theorem flat_set2 : ∀ (L : List Rb) (j : Nat) (hj : j < L.length) (s : ByteArray), (flat rbCells L).set (j * 3 + 2) (.string s) = flat rbCells (L.set j ⟨L[j].k, L[j].fl, s⟩)
  | x :: r, 0, _, s => by rw [flat_cons]; rfl
  | x :: r, j + 1, h, s => by
    have ih := flat_set2 r j (by simpa using h) s
    rw [flat_cons, List.set_cons_succ, flat_cons, List.getElem_cons_succ, ← ih, show (j + 1) * 3 + 2 = j * 3 + 2 + 3 by omega]
    rfl
section
variable {w : World} {R : Rl} {r : Rf}
theorem flAt_step {L Lt : List Rb} {t : Nat} (h : FlAt L Lt t) (ht : t < L.length) : ∃ hl : t < Lt.length, Lt[t] = L[t] ∧ FlAt L (Lt.set t ⟨L[t].k, L[t].nw, L[t].nw⟩) (t + 1) := by
  have h0 := h t
  rw [if_neg (by omega), List.getElem?_eq_getElem ht] at h0
  obtain ⟨hl, e⟩ := List.getElem?_eq_some_iff.1 h0
  refine ⟨hl, e, fun i => ?_⟩
  rw [List.getElem?_set]
  by_cases hi : t = i
  · subst hi
    rw [if_pos rfl, if_pos hl, if_pos (by omega), List.getElem?_eq_getElem ht]
    rfl
  · rw [if_neg hi, h i]
    by_cases h2 : i < t
    · rw [if_pos h2, if_pos (by omega)]
    · rw [if_neg h2, if_neg (by omega)]
theorem flAt_end {L Lt : List Rb} {t : Nat} (h : FlAt L Lt t) (ht : L.length ≤ t) : Lt = flushL L := by
  apply List.ext_getElem?
  intro i
  rw [h i]
  unfold flushL
  rw [List.getElem?_map]
  by_cases hi : i < t
  · rw [if_pos hi]
  · rw [if_neg hi, List.getElem?_eq_none (by omega)]; rfl
theorem flAt_length {L Lt : List Rb} {t : Nat} (h : FlAt L Lt t) : Lt.length = L.length := by
  have key : ∀ i, i < Lt.length ↔ i < L.length := fun i => by
    have := congrArg Option.isSome (h i)
    have e : ∀ l : List Rb, (l[i]?).isSome = decide (i < l.length) := fun l => by
      by_cases hl : i < l.length
      · simp [hl]
      · simp [hl]
    rw [e] at this
    split at this
    · rw [Option.isSome_map, e] at this; exact decide_eq_decide.1 this
    · rw [e] at this; exact decide_eq_decide.1 this
  have h1 := key Lt.length
  have h2 := key L.length
  omega
set_option maxHeartbeats 2000000 in
set_option maxRecDepth 100000 in
theorem flushR_any (H : RfIs w R r) (F : Fit r) : Calls Try.prog 40 #[.pointer (some ⟨R.p, 0, none⟩)] w fun e w' => e = .returned (.int .i64 (flushR r).2) ∧ ∃ R', RfIs w' R' (flushR r).1 ∧ Goes w w' R R' := by
  have mixed := Try.mixed
  have q := fallsR_any H F
  have HH0 := Lib.hid H
  clear H
  cases hc : (countR r).2 with
  | true =>
    have E : Hid (flushR r = ((countR r).1, 11)) := by show _ = _; unfold flushR; rw [if_pos hc]
    rw [hc] at q
    have q := Lib.hid q
    clear hc
    go_enter Try.func40, Try.ntmps40
    go_wp2_with fail
    refine q.out.mono ?_
    rintro e w1 ⟨rfl, R', H, G⟩
    have H := Lib.hid H
    have G := Lib.hid G
    go_wp2
    go_ret
    rw [E.out]
    exact ⟨rfl, R', H.out, G.out⟩
  | false =>
    have E : Hid (flushR r = ({ (countR r).1 with L := flushL (countR r).1.L, lo := [] }, 0)) := by show _ = _; unfold flushR; rw [if_neg (by rw [hc]; simp)]
    rw [hc] at q
    have q := Lib.hid q
    clear hc
    generalize (countR r).1 = r1 at q E
    go_enter Try.func40, Try.ntmps40
    go_wp2_with fail
    refine q.out.mono ?_
    rintro e w1 ⟨rfl, R1, H, G⟩
    have H := Lib.hid H
    have G := Lib.hid G
    have ep : R.p = R1.p := G.out.p.symm
    rw [ep]
    have EP := Lib.hid ep
    clear q ep
    obtain ⟨a, c, hv⟩ := owns_len H.out.ownL
    obtain ⟨m, hm⟩ : ∃ m, m = r1.L.length := ⟨_, rfl⟩
    rw [← hm] at hv
    have HM := Lib.hid hm.symm
    have EL := Lib.hid hv
    have lenL : m ≤ 9223372036854775807 := by have := H.out.lenL; unfold maxLen at this; omega
    clear hm hv
    go_wp2
    go_loopg [4] m (fun kx s4 wr => ∃ (t : Nat) (Lt : List Rb), s4 = .int .i64 t ∧ t ≤ m ∧ m - t ≤ kx ∧ Aside (RfIs wr R1 { r1 with L := Lt }) ∧ Aside (FlAt r1.L Lt t) ∧ Aside (Chg (RFt R1) w1 wr))
    case atStart => exact ⟨0, r1.L, rfl, Nat.zero_le _, by omega, H.out, fun i => rfl, Chg.refl _ _⟩
    case round =>
      clear H
      obtain ⟨t, Lt, rfl, htm, hg, H, A, Y⟩ := hrel
      have H : Hid (RfIs wr R1 { r1 with L := Lt }) := H
      have A : Hid (FlAt r1.L Lt t) := A
      have Y : Hid (Chg (RFt R1) w1 wr) := Y
      have z0 : (0 : Int) ≤ (t : Int) := by omega
      have lm : Lt.length = m := by rw [flAt_length A.out]; exact HM.out
      have c1 : wr.cell? ⟨R1.p, 1, none⟩ = some (.slice a m c) := by have := (H.out.cell (j := 1) rfl).1; rw [EL.out] at this; exact this
      have oL : wr.ownsRow 0 80 3 (.slice a m c) Lt.length (flat rbCells Lt) := by have := H.out.ownL; rw [EL.out] at this; exact this
      by_cases hlt : t < m
      · have z1 : (t : Int) < (m : Int) := by omega
        obtain ⟨hl, e1, A'⟩ := flAt_step A.out (by rw [HM.out]; exact hlt)
        obtain ⟨g, rfl, x0, x1, x2, fz⟩ := ownL_get oL t hl
        have f1 := fz (t * 3 + 1)
        have A' := Lib.hid A'
        rw [lm] at oL
        have OL := Lib.hid oL
        rw [e1] at x0 x1 x2
        have RG : Hid (RFt R1 g) := .inr (.inl (by rw [EL.out]; rfl))
        have n1 : g ≠ R1.p := fun e => H.out.apL (by rw [EL.out, ← e]; rfl)
        have HL := Lib.hid hl
        have XE : Hid (Lt[t]?.getD default = r1.L[t]'(by rw [HM.out]; exact hlt)) := (getD_lt hl).trans e1
        generalize hx : r1.L[t]'(by rw [HM.out]; exact hlt) = x at x0 x1 x2 A' XE
        clear hx fz oL e1 hl
        go_wp2_with fail
        go_region
        obtain ⟨w2, h2⟩ : ∃ W, W = (wr.setCell ⟨g, t * 3 + 1, none⟩ (.string x.nw)).drew := ⟨_, rfl⟩
        rw [← h2]
        have XW : Chg (fun i => i = g) wr w2 := by rw [h2]; exact (chg_setCell wr ⟨g, t * 3 + 1, none⟩ _).drew
        have hx : Lt[t]'HL.out = x := (getD_lt HL.out).symm.trans XE.out
        have H2 : Hid (RfIs w2 R1 { r1 with L := Lt.set t ⟨x.k, x.nw, x.nw⟩ }) := by
          refine ⟨?_, ?_, XW.owns H.out.ownO (fun i hi e => H.out.apLO g (by rw [EL.out]; rfl) (e ▸ hi))⟩
          · rw [XW.block R1.p (blk_lt H.out.blk) (fun e => n1 e.symm)]
            exact H.out.blk
          · have o1 := (OL.out.stored (t * 3 + 1) (.string x.nw)).1
            have e := flat_set1 Lt t HL.out x.nw
            rw [hx] at e
            rw [e] at o1
            have o4 := ((Ext.refl _).drew.chg (fun _ => False)).owns o1 (fun _ _ h => h)
            rw [EL.out, h2]
            show World.ownsRow _ 0 80 3 _ (Lt.set t _).length _
            rw [List.length_set, lm]
            exact o4
        have Y2 : Hid (Chg (RFt R1) w1 w2) := Y.out.trans XW (fun i hi e => e ▸ RG.out)
        clear h2 XW hx x0 x1 x2 c1 f1
        go_wp2
        go_roundg (m - (t + 1))
        case measure => omega
        case rel => exact ⟨t + 1, _, by go_num, by omega, Nat.le_refl _, H2.out, A'.out, Y2.out⟩
      · obtain rfl : t = m := by omega
        have z1 : ¬ (t : Int) < (t : Int) := by omega
        have LE := Lib.hid (flAt_end A.out (by rw [HM.out]; exact Nat.le_refl _))
        have c2 := (H.out.cell (j := 2) rfl).1
        have f2 := (H.out.cell (j := 2) rfl).2
        have B := Lib.hid H.out.blk
        go_wp2
        go_ret
        rw [E.out]
        have X := chg_setCell wr ⟨R1.p, 2, none⟩ (.slice none 0 0)
        refine ⟨rfl, ⟨R1.p, R1.vL, .slice none 0 0⟩, ⟨heap_setCell_same wr R1.p 2 _ 76 _ B.out, ?_, World.ownsRow_nil _ _ _ _⟩, Goes.trans HH0.out G.out ⟨rfl, Y.out.trans X (fun i hi h => .inl h), ?_⟩⟩
        · have o := X.owns H.out.ownL (fun i hi (e : i = R1.p) => H.out.apL (by rw [← e]; exact hi))
          rw [← LE.out]
          exact o
        · rintro i (h | h | h)
          · exact .inl (.inl h)
          · exact .inl (.inr (.inl h))
          · cases h
end
end Go.Proofs.Ytedcpmkfanlicaa
