/- A device's state as one thing, its calls as functions of states. -/
import Derived.Test.YtedcpmkfanlicaaDvShown
set_option linter.unusedVariables false
set_option linter.unusedSimpArgs false
namespace Go.Proofs.Ytedcpmkfanlicaa
open Go Go.RowKit Go.Sort Go.Lib Go.Maps

structure St where
  d : Dv
  G : Int → Option Blk
  lo : List (Int × Nw)
structure Loc where
  p : Nat
  mf : Nat
  ml : Nat
def Foot (L : Loc) (i : Nat) : Prop := i = L.p ∨ i = L.mf ∨ i = L.ml
/-- a device at L that is as s says, behind at most m steps -/
structure DvIs (w : World) (L : Loc) (s : St) (m : Nat) : Prop where
  dev : ∃ nf nl, DevAt w L.p s.d L.mf L.ml nf nl s.G s.lo ∧ nf + s.lo.length ≤ m ∧ nl ≤ m
  clock : 0 ≤ s.d.clock ∧ s.d.clock ≤ m
  calls : 0 ≤ s.d.calls ∧ s.d.calls ≤ m
  mask : u64 s.d.mask
  armed : 0 ≤ s.d.armed ∧ s.d.armed ≤ 9223372036854775807

def fallG (d : Dv) (G : Int → Option Blk) (lo : List (Int × Nw)) (mask torn bytes : Int) : Int → Option Blk := settleG (resC mask torn (toBytes bytes)) 0 G lo
def countS (s : St) : St × Bool :=
  if s.d.down then (s, true)
  else if s.d.armed ≤ 0 then ({ s with d := { s.d with calls := s.d.calls + 1 } }, true)
  else if s.d.armed = 1 then (⟨{ s.d with calls := s.d.calls + 1, down := true, armed := 0 }, settleG (resC s.d.mask s.d.torn (toBytes s.d.bytes)) 0 s.G s.lo, []⟩, false)
  else ({ s with d := { s.d with calls := s.d.calls + 1, armed := s.d.armed - 1 } }, true)
def mayS (s : St) (k : Int) : Int := if s.d.down then 11 else if k < 0 ∨ s.d.n ≤ k then 1 else 0
def putS (s : St) (k : Int) (b : Blk) : St := ⟨{ s.d with clock := clockP s.lo k s.d.clock }, s.G, putL s.lo k b s.d.clock⟩
def writeS (s : St) (k : Int) (b : Blk) : St × Int :=
  if (countS s).2 = false then ((countS s).1, 11)
  else if mayS (countS s).1 k = 0 then (putS (countS s).1 k b, 0) else ((countS s).1, mayS (countS s).1 k)
def settleS (s : St) : St := ⟨s.d, settleG resF 0 s.G s.lo, []⟩
def flushS (s : St) : St × Int :=
  if s.d.down then (s, 11) else if (countS s).2 = false then ((countS s).1, 11) else (settleS (countS s).1, 0)
def crashS (s : St) (mask torn bytes : Int) : St :=
  if s.d.down then s else ⟨{ s.d with down := true, armed := 0 }, settleG (resC mask torn (toBytes bytes)) 0 s.G s.lo, []⟩
def startS (s : St) : St := { s with d := { s.d with down := false } }
def armS (s : St) (n mask torn bytes : Int) : St := { s with d := { s.d with armed := max n 0, mask := mask, torn := torn, bytes := bytes } }
def newS (blocks : Int) : St := ⟨⟨min (max blocks 1) 4294967296, false, 0, 0, 0, 0, 0, 0⟩, fun _ => none, []⟩

theorem putL_length (lo : List (Int × Nw)) (k : Int) (b : Blk) (c : Int) : (putL lo k b c).length ≤ lo.length + 1 := by
  have := congrArg List.length (putL_keys lo k b c)
  rw [List.length_map] at this
  rw [this]
  split <;> simp
theorem clockP_le (lo : List (Int × Nw)) (k c : Int) : c ≤ clockP lo k c ∧ clockP lo k c ≤ c + 1 := by unfold clockP; split <;> omega

section
variable {w : World} {L : Loc} {s : St} {m : Nat}
theorem DvIs.mono (H : DvIs w L s m) {n : Nat} (h : m ≤ n) : DvIs w L s n := by
  obtain ⟨nf, nl, D, a, b⟩ := H.dev
  exact ⟨⟨nf, nl, D, by omega, by omega⟩, ⟨H.clock.1, by have := H.clock.2; omega⟩, ⟨H.calls.1, by have := H.calls.2; omega⟩, H.mask, H.armed⟩
theorem DvIs.chg (H : DvIs w L s m) {w' : World} {S : Nat → Prop} (X : Chg S w w') (h : ∀ i, Foot L i → ¬ S i) : DvIs w' L s m := by
  obtain ⟨nf, nl, D, a, b⟩ := H.dev
  exact ⟨⟨nf, nl, D.chg X (h _ (.inl rfl)) (h _ (.inr (.inl rfl))) (h _ (.inr (.inr rfl))), a, b⟩, H.clock, H.calls, H.mask, H.armed⟩
theorem DvIs.ext (H : DvIs w L s m) {w' : World} (X : Chg (fun _ => False) w w') : DvIs w' L s m := H.chg X fun _ _ h => h
theorem DvIs.lt (H : DvIs w L s m) : ∀ i, Foot L i → i < w.heap.size := by
  obtain ⟨nf, nl, D, a, b⟩ := H.dev
  rintro i (rfl | rfl | rfl)
  · exact D.lt
  · exact D.fl.lt
  · exact D.ls.lt
theorem DvIs.fullN (H : DvIs w L s m) (k : Int) : Full (newest s.G s.lo k) := by obtain ⟨nf, nl, D, a, b⟩ := H.dev; exact D.fullN k
theorem new_st (blocks : Int) (w : World) : Calls Try.prog 11 #[.int .i64 blocks] w fun e w' => e = .returned (.pointer (some ⟨w.heap.size + 2, 0, none⟩)) ∧ DvIs w' ⟨w.heap.size + 2, w.heap.size, w.heap.size + 1⟩ (newS blocks) 0 ∧ Chg (fun _ => False) w w' :=
  (new_any blocks w).mono fun e w' ⟨he, hw⟩ => by
    subst hw
    exact ⟨he, ⟨⟨0, 0, devAt_new blocks w, Nat.le_refl _, Nat.le_refl _⟩, ⟨Int.le_refl _, Int.le_refl _⟩, ⟨Int.le_refl _, Int.le_refl _⟩, ⟨by show (0 : Int) ≤ 0; omega, by show (0 : Int) < _; omega⟩, ⟨by show (0 : Int) ≤ 0; omega, by show (0 : Int) ≤ _; omega⟩⟩, ((((Ext.refl w).alloc _).alloc _).alloc _).chg _⟩
theorem blocks_st (H : DvIs w L s m) : Calls Try.prog 22 #[.pointer (some ⟨L.p, 0, none⟩)] w fun e w' => e = .returned (.int .i64 s.d.n) ∧ w' = w := by obtain ⟨nf, nl, D, a, b⟩ := H.dev; exact blocks_any D
theorem up_st (H : DvIs w L s m) : Calls Try.prog 20 #[.pointer (some ⟨L.p, 0, none⟩)] w fun e w' => e = .returned (.bool (!s.d.down)) ∧ w' = w := by obtain ⟨nf, nl, D, a, b⟩ := H.dev; exact up_any D
theorem calls_st (H : DvIs w L s m) : Calls Try.prog 16 #[.pointer (some ⟨L.p, 0, none⟩)] w fun e w' => e = .returned (.int .i64 s.d.calls) ∧ w' = w := by obtain ⟨nf, nl, D, a, b⟩ := H.dev; exact calls_any D
theorem loose_st (H : DvIs w L s m) : Calls Try.prog 24 #[.pointer (some ⟨L.p, 0, none⟩)] w fun e w' => e = .returned (.int .i64 (s.lo.length : Int)) ∧ w' = w := by obtain ⟨nf, nl, D, a, b⟩ := H.dev; exact loose_any D
theorem start_st (H : DvIs w L s m) : Calls Try.prog 14 #[.pointer (some ⟨L.p, 0, none⟩)] w fun e w' => e = .returned (.tuple #[]) ∧ DvIs w' L (startS s) m ∧ Chg (Foot L) w w' := by
  obtain ⟨nf, nl, D, a, b⟩ := H.dev
  exact (start_any D).mono fun e w' ⟨he, D', X⟩ => ⟨he, ⟨⟨nf, nl, D', a, b⟩, H.clock, H.calls, H.mask, H.armed⟩, X.mono fun _ _ h => .inl h⟩
theorem arm_st (H : DvIs w L s m) (n mask torn bytes : Int) (hn : n ≤ 9223372036854775807) (hm : u64 mask) : Calls Try.prog 18 #[.pointer (some ⟨L.p, 0, none⟩), .int .i64 n, .int .u64 mask, .int .i64 torn, .int .i64 bytes] w fun e w' => e = .returned (.tuple #[]) ∧ DvIs w' L (armS s n mask torn bytes) m ∧ Chg (Foot L) w w' := by
  obtain ⟨nf, nl, D, a, b⟩ := H.dev
  exact (arm_any D n mask torn bytes).mono fun e w' ⟨he, D', X⟩ => ⟨he, ⟨⟨nf, nl, D', a, b⟩, H.clock, H.calls, hm, ⟨by show (0 : Int) ≤ max n 0; omega, by show max n 0 ≤ _; omega⟩⟩, X.mono fun _ _ h => .inl h⟩
theorem crash_st (H : DvIs w L s m) (hmm : m ≤ 1000000) (mask torn bytes : Int) (hm : u64 mask) : Calls Try.prog 17 #[.pointer (some ⟨L.p, 0, none⟩), .int .u64 mask, .int .i64 torn, .int .i64 bytes] w fun e w' => e = .returned (.tuple #[]) ∧ DvIs w' L (crashS s mask torn bytes) m ∧ Chg (Foot L) w w' := by
  obtain ⟨nf, nl, D, a, b⟩ := H.dev
  have hc := H.clock
  cases hd : s.d.down with
  | true =>
    have e : crashS s mask torn bytes = s := by unfold crashS; rw [hd]; rfl
    rw [e]
    exact (crash_down D hd mask torn bytes).mono fun e w' ⟨he, D', X⟩ => ⟨he, ⟨⟨nf, nl, D', a, b⟩, H.clock, H.calls, H.mask, H.armed⟩, X.mono fun _ _ h => h.elim⟩
  | false =>
    have e : crashS s mask torn bytes = ⟨{ s.d with down := true, armed := 0 }, settleG (resC mask torn (toBytes bytes)) 0 s.G s.lo, []⟩ := by unfold crashS; rw [hd]; rfl
    rw [e]
    exact (crash_up D hd (by omega) (by omega) (by omega) mask torn bytes hm).mono fun e w' ⟨he, D', X⟩ => ⟨he, ⟨⟨nf + s.lo.length, nl, D', by simpa using a, b⟩, H.clock, H.calls, H.mask, ⟨by show (0 : Int) ≤ 0; omega, by show (0 : Int) ≤ _; omega⟩⟩, X⟩
theorem clone_st (H : DvIs w L s m) : Calls Try.prog 15 #[.pointer (some ⟨L.p, 0, none⟩)] w fun e w' => ∃ L' : Loc, e = .returned (.pointer (some ⟨L'.p, 0, none⟩)) ∧ DvIs w' L' s m ∧ (∀ i, Foot L' i → w.heap.size ≤ i) ∧ Chg (fun _ => False) w w' := by
  obtain ⟨nf, nl, D, a, b⟩ := H.dev
  exact (clone_any D).mono fun e w' ⟨q, mf', ml', he, D', ⟨h1, h2, h3⟩, X⟩ => ⟨⟨q, mf', ml'⟩, he, ⟨⟨nf, nl, D', a, b⟩, H.clock, H.calls, H.mask, H.armed⟩, (by rintro i (rfl | rfl | rfl) <;> assumption), X⟩

/-- what a call counts -/
theorem counts_st (H : DvIs w L s m) (hmm : m < 1000000) : Calls Try.prog 32 #[.pointer (some ⟨L.p, 0, none⟩)] w fun e w' => e = .returned (.bool (countS s).2) ∧ DvIs w' L (countS s).1 (m + 1) ∧ Chg (Foot L) w w' := by
  obtain ⟨nf, nl, D, a, b⟩ := H.dev
  have hc := H.clock
  have hl := H.calls
  have ha := H.armed
  unfold countS
  by_cases hd : s.d.down = true
  · rw [if_pos hd]
    exact (counts_down D hd).mono fun e w' ⟨he, hw⟩ => ⟨he, by subst hw; exact H.mono (by omega), by subst hw; exact (Ext.refl _).chg _⟩
  · rw [if_neg hd]
    rw [Bool.not_eq_true] at hd
    by_cases h0 : s.d.armed ≤ 0
    · rw [if_pos h0]
      exact (counts_plain D hd h0 (by omega)).mono fun e w' ⟨he, D', X⟩ => ⟨he, ⟨⟨nf, nl, D', by show nf + s.lo.length ≤ _; omega, by omega⟩, ⟨hc.1, by show s.d.clock ≤ _; omega⟩, ⟨by show 0 ≤ s.d.calls + 1; omega, by show s.d.calls + 1 ≤ _; omega⟩, H.mask, H.armed⟩, X.mono fun _ _ h => .inl h⟩
    · rw [if_neg h0]
      by_cases h1 : s.d.armed = 1
      · rw [if_pos h1]
        exact (counts_falls D hd h1 (by omega) (by omega) (by omega) (by omega) H.mask).mono fun e w' ⟨he, D', X⟩ => ⟨he, ⟨⟨nf + s.lo.length, nl, D', by show nf + s.lo.length + 0 ≤ _; omega, by omega⟩, ⟨hc.1, by show s.d.clock ≤ _; omega⟩, ⟨by show 0 ≤ s.d.calls + 1; omega, by show s.d.calls + 1 ≤ _; omega⟩, H.mask, ⟨by show (0 : Int) ≤ 0; omega, by show (0 : Int) ≤ _; omega⟩⟩, X⟩
      · rw [if_neg h1]
        exact (counts_armed D hd (by omega) ha.2 (by omega)).mono fun e w' ⟨he, D', X⟩ => ⟨he, ⟨⟨nf, nl, D', by show nf + s.lo.length ≤ _; omega, by omega⟩, ⟨hc.1, by show s.d.clock ≤ _; omega⟩, ⟨by show 0 ≤ s.d.calls + 1; omega, by show s.d.calls + 1 ≤ _; omega⟩, H.mask, ⟨by show 0 ≤ s.d.armed - 1; omega, by show s.d.armed - 1 ≤ _; omega⟩⟩, X.mono fun _ _ h => .inl h⟩
end
end Go.Proofs.Ytedcpmkfanlicaa
