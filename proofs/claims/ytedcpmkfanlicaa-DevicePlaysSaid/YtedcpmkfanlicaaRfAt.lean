/- The reference's at and Read. -/
import Derived.Test.YtedcpmkfanlicaaRfBase
set_option linter.unusedVariables false
set_option linter.unusedSimpArgs false
namespace Go.Proofs.Ytedcpmkfanlicaa
open Go Go.RowKit Go.Sort Go.Lib Go.Maps Go.Deep
def atR (L : List Rb) (n : Int) : Option Nat := L.findIdx? (fun b => b.k == n)
def atV (L : List Rb) (n : Int) : Int := match atR L n with | some i => i | none => -1
theorem atV_some {L : List Rb} {n : Int} {t : Nat} (ht : t < L.length) (h : L[t].k = n) (hb : ∀ i (hi : i < L.length), i < t → L[i].k ≠ n) : atR L n = some t :=
  List.findIdx?_eq_some_iff_getElem.2 ⟨ht, by simpa using h, fun j hj => by simpa using hb j (by omega) hj⟩
theorem atV_none {L : List Rb} {n : Int} (hb : ∀ i (hi : i < L.length), L[i].k ≠ n) : atR L n = none := by
  refine List.findIdx?_eq_none_iff.2 fun b hb' => ?_
  obtain ⟨i, hi, rfl⟩ := List.getElem_of_mem hb'
  simpa using hb i hi
theorem atR_lt {L : List Rb} {n : Int} {t : Nat} (h : atR L n = some t) : ∃ ht : t < L.length, L[t].k = n := by
  obtain ⟨ht, h1, _⟩ := List.findIdx?_eq_some_iff_getElem.1 h
  exact ⟨ht, by simpa using h1⟩
section
variable {w : World} {R : Rl} {r : Rf}
/-- an entry's cells -/
theorem ownL_get {w : World} {a : Option Addr} {n c : Nat} {L : List Rb} (h : w.ownsRow 0 80 3 (.slice a n c) L.length (flat rbCells L)) (t : Nat) (ht : t < L.length) :
    ∃ g, a = some ⟨g, 0, none⟩ ∧ w.cell? ⟨g, t * 3, none⟩ = some (.int .i64 L[t].k) ∧ w.cell? ⟨g, t * 3 + 1, none⟩ = some (.string L[t].fl) ∧ w.cell? ⟨g, t * 3 + 2, none⟩ = some (.string L[t].nw) ∧ (∀ j, w.frozen? ⟨g, j, none⟩ = false) := by
  rcases h.2 with ⟨e, h0⟩ | ⟨g, cap, cur, e, hg, hh, hr⟩
  · omega
  · have e' := e
    simp only [Value.slice.injEq] at e
    obtain ⟨rfl, rfl, rfl⟩ := e
    have hc := owns_cells h rfl
    have get : ∀ j (hj : j < 3) v, (rbCells L[t])[j]? = some v → w.cell? ⟨g, t * 3 + j, none⟩ = some v := fun j hj v hv => by
      have := hc (t * 3 + j) v (by rw [flat_get rbCells_length L t j ht hj]; exact hv)
      rwa [Nat.zero_add] at this
    exact ⟨g, rfl, get 0 (by decide) _ rfl, get 1 (by decide) _ rfl, get 2 (by decide) _ rfl, fun j => frozen_of_row w g j cur 80 hh⟩
theorem RfIs.lenL (H : RfIs w R r) : r.L.length ≤ maxLen := by
  rcases owns_shape H.ownL with ⟨_, h⟩ | ⟨g, cap, _, _, _, h1, h2⟩ <;> omega
theorem RfIs.lenO (H : RfIs w R r) : r.lo.length ≤ maxLen := by
  rcases owns_shape H.ownO with ⟨_, h⟩ | ⟨g, cap, _, _, _, h1, h2⟩ <;> omega
set_option maxHeartbeats 1000000 in
theorem atR_any (H : RfIs w R r) (n : Int) : Calls Try.prog 43 #[.pointer (some ⟨R.p, 0, none⟩), .int .i64 n] w fun e w' => e = .returned (.int .i64 (atV r.L n)) ∧ w' = w := by
  obtain ⟨p, vL, vO⟩ := R
  obtain ⟨a, c, hv⟩ := owns_len H.ownL
  simp only at hv
  subst hv
  have c1 : w.cell? ⟨p, 1, none⟩ = some (.slice a r.L.length c) := (H.cell (j := 1) rfl).1
  have G := Lib.hid (fun t ht => ownL_get H.ownL t ht)
  have hs : r.L.length ≤ 9223372036854775807 := by have := H.lenL; unfold maxLen at this; omega
  clear H
  generalize hL : r.L = L at c1 G hs ⊢
  clear hL
  generalize hl : L.length = m at c1 hs ⊢
  have HL := Lib.hid hl
  clear hl
  go_enter Try.func43, Try.ntmps43
  go_wp2
  go_loopg [5] m (fun kx s5 wr => ∃ t : Nat, s5 = .int .i64 t ∧ t ≤ m ∧ m - t ≤ kx ∧ Aside (∀ i (hi : i < L.length), i < t → L[i].k ≠ n) ∧ wr = w)
  case atStart => exact ⟨0, rfl, Nat.zero_le _, by omega, fun i hi h => by omega, rfl⟩
  case round =>
    obtain ⟨t, rfl, htm, hg, B, rfl⟩ := hrel
    have z0 : (0 : Int) ≤ (t : Int) := by omega
    by_cases hlt : t < m
    · have z1 : (t : Int) < (m : Int) := by omega
      have htl : t < L.length := by rw [HL.out]; exact hlt
      obtain ⟨g, rfl, k0, _, _, _⟩ := G.out t htl
      generalize hk : L[t].k = k at k0
      by_cases hkn : k = n
      · subst hkn
        have E : Hid (atV L k = (t : Int)) := by show _ = _; unfold atV; rw [atV_some htl hk B.out]
        clear hk
        go_wp2
        go_ret
        exact ⟨by rw [E.out]; rfl, rfl⟩
      · have hkn' : (k == n) = false := by simpa using hkn
        have B' : Hid (∀ i (hi : i < L.length), i < t + 1 → L[i].k ≠ n) := fun i hi h => by
          by_cases e : i = t
          · subst e; rw [hk]; exact hkn
          · exact B.out i hi (by omega)
        clear hk
        go_wp2
        go_roundg (m - (t + 1))
        case measure => omega
        case rel => exact ⟨t + 1, by go_num, by omega, Nat.le_refl _, B'.out, rfl⟩
    · have z1 : ¬ (t : Int) < (m : Int) := by omega
      have E : Hid (atV L n = -1) := by show _ = _; unfold atV; rw [atV_none (fun i hi => B.out i hi (by have := HL.out; omega))]
      go_wp2
      go_ret
      exact ⟨by rw [E.out]; rfl, rfl⟩
end
def noughtS : ByteArray := strB zeroBlk
def mayR (r : Rf) (k : Int) : Int := if r.down then 11 else if k < 0 ∨ r.n ≤ k then 1 else 0
def newestR (L : List Rb) (k : Int) : ByteArray := match atR L k with | some i => (L[i]?.getD default).nw | none => noughtS
section
variable {w : World} {R : Rl} {r : Rf}
set_option maxHeartbeats 1000000 in
theorem readR_any (H : RfIs w R r) (k : Int) : Calls Try.prog 49 #[.pointer (some ⟨R.p, 0, none⟩), .int .i64 k] w fun e w' => e = .returned (.tuple #[.string (if mayR r k = 0 then newestR r.L k else ⟨#[]⟩), .int .i64 (mayR r k)]) ∧ Chg (fun _ => False) w w' := by
  obtain ⟨s0, hs0⟩ : ∃ s, s = (if mayR r k = 0 then newestR r.L k else ⟨#[]⟩) := ⟨_, rfl⟩
  obtain ⟨e0, he0⟩ : ∃ s, s = mayR r k := ⟨_, rfl⟩
  rw [← hs0, ← he0]
  obtain ⟨p, vL, vO⟩ := R
  obtain ⟨a, c, hv⟩ := owns_len H.ownL
  simp only at hv
  subst hv
  have q := Lib.hid (atR_any H k)
  have c0 : w.cell? ⟨p, 0, none⟩ = some (.int .i64 r.n) := (H.cell (j := 0) rfl).1
  have c3 : w.cell? ⟨p, 3, none⟩ = some (.bool r.down) := (H.cell (j := 3) rfl).1
  have c1 : w.cell? ⟨p, 1, none⟩ = some (.slice a r.L.length c) := (H.cell (j := 1) rfl).1
  have G := Lib.hid (fun t ht => ownL_get H.ownL t ht)
  have N := Lib.hid (noughts_any w)
  clear H
  cases hd : r.down with
  | true =>
    have E : mayR r k = 11 := by unfold mayR; rw [hd]; rfl
    rw [E, if_neg (by decide)] at hs0
    rw [E] at he0
    subst hs0 he0
    clear E
    rw [hd] at c3
    clear hd
    go_enter Try.func49, Try.ntmps49
    go_wp2
    refine bodyPost_ret (v := .tuple #[.string ⟨#[]⟩, .int .i64 11]) ?_ rfl ⟨rfl, Chg.refl _ _⟩
    simp [results, Try.results49, go_sem]
  | false =>
    rw [hd] at c3
    by_cases hr : k < 0 ∨ r.n ≤ k
    · have E : mayR r k = 1 := by unfold mayR; rw [hd, if_neg (by simp), if_pos hr]
      rw [E, if_neg (by decide)] at hs0
      rw [E] at he0
      subst hs0 he0
      clear E
      clear hd
      by_cases h0 : k < 0
      · go_enter Try.func49, Try.ntmps49
        go_wp2
        refine bodyPost_ret (v := .tuple #[.string ⟨#[]⟩, .int .i64 1]) ?_ rfl ⟨rfl, Chg.refl _ _⟩
        simp [results, Try.results49, go_sem]
      · have h1 : r.n ≤ k := by omega
        go_enter Try.func49, Try.ntmps49
        go_wp2
        refine bodyPost_ret (v := .tuple #[.string ⟨#[]⟩, .int .i64 1]) ?_ rfl ⟨rfl, Chg.refl _ _⟩
        simp [results, Try.results49, go_sem]
    · have E : mayR r k = 0 := by unfold mayR; rw [hd, if_neg (by simp), if_neg hr]
      rw [E, if_pos rfl] at hs0
      rw [E] at he0
      subst he0
      clear E
      have h0 : ¬ k < 0 := by omega
      have h1 : ¬ r.n ≤ k := by omega
      clear hd hr
      cases hat : atR r.L k with
      | none =>
        have e : atV r.L k = -1 := by unfold atV; rw [hat]
        have E2 : newestR r.L k = strB zeroBlk := by unfold newestR; rw [hat]; rfl
        rw [E2] at hs0
        subst hs0
        clear E2
        rw [e] at q
        clear e hat
        go_enter Try.func49, Try.ntmps49
        go_wp2_with fail
        refine q.out.mono ?_
        rintro e w1 ⟨rfl, hw⟩
        have hw := hw.symm
        subst hw
        go_wp2_with fail
        refine N.out.mono ?_
        rintro e w1 ⟨rfl, X⟩
        have X := Lib.hid X
        go_wp2
        refine bodyPost_ret (v := .tuple #[.string (strB zeroBlk), .int .i64 0]) ?_ rfl ⟨rfl, X.out⟩
        simp [results, Try.results49, go_sem]
      | some t =>
        obtain ⟨ht, _⟩ := atR_lt hat
        have e : atV r.L k = (t : Int) := by unfold atV; rw [hat]
        have E2 : newestR r.L k = r.L[t].nw := by unfold newestR; rw [hat]; simp [List.getElem?_eq_getElem ht]
        rw [E2] at hs0
        subst hs0
        clear E2
        rw [e] at q
        obtain ⟨g, rfl, _, _, k2, _⟩ := G.out t ht
        obtain ⟨m, hm⟩ : ∃ m, m = r.L.length := ⟨_, rfl⟩
        rw [← hm] at c1
        have ht' : t < m := by omega
        generalize r.L[t].nw = s2 at k2 ⊢
        clear e hat hm G
        have z0 : (0 : Int) ≤ (t : Int) := by omega
        have z1 : (t : Int) < (m : Int) := by omega
        have z2 : ¬ (t : Int) < 0 := by omega
        go_enter Try.func49, Try.ntmps49
        go_wp2_with fail
        refine q.out.mono ?_
        rintro e w1 ⟨rfl, hw⟩
        have hw := hw.symm
        subst hw
        go_wp2
        refine bodyPost_ret (v := .tuple #[.string s2, .int .i64 0]) ?_ rfl ⟨rfl, Chg.refl _ _⟩
        simp [results, Try.results49, go_sem]
end
end Go.Proofs.Ytedcpmkfanlicaa
