/- Plain laws on the states of devices. -/
import Derived.Test.YtedcpmkfanlicaaDvOpen
set_option linter.unusedVariables false
set_option linter.unusedSimpArgs false
namespace Go.Proofs.Ytedcpmkfanlicaa
open Go Go.RowKit Go.Sort Go.Lib Go.Maps
theorem bits7 (n : Int) : bits .and .i64 n 7 = n % 8 := by
  have h : (BitVec.ofInt 64 7).toNat = 2 ^ 3 - 1 := by decide
  have key : (BitVec.ofInt 64 n &&& BitVec.ofInt 64 7).toNat = (n % ((2 ^ 64 : Nat) : Int)).toNat % 2 ^ 3 := by
    rw [BitVec.toNat_and, BitVec.toNat_ofInt, h, Nat.and_two_pow_sub_one_eq_mod]
  show IntKind.i64.wrap ((BitVec.ofInt 64 n &&& BitVec.ofInt 64 7).toNat : Nat) = n % 8
  rw [key, IntKind.wrap_i64]
  omega
theorem bits15 (n : Int) : bits .and .i64 n 15 = n % 16 := by
  have h : (BitVec.ofInt 64 15).toNat = 2 ^ 4 - 1 := by decide
  have key : (BitVec.ofInt 64 n &&& BitVec.ofInt 64 15).toNat = (n % ((2 ^ 64 : Nat) : Int)).toNat % 2 ^ 4 := by
    rw [BitVec.toNat_and, BitVec.toNat_ofInt, h, Nat.and_two_pow_sub_one_eq_mod]
  show IntKind.i64.wrap ((BitVec.ofInt 64 n &&& BitVec.ofInt 64 15).toNat : Nat) = n % 16
  rw [key, IntKind.wrap_i64]
  omega
theorem bits31 (n : Int) : bits .and .i64 n 31 = n % 32 := by
  have h : (BitVec.ofInt 64 31).toNat = 2 ^ 5 - 1 := by decide
  have key : (BitVec.ofInt 64 n &&& BitVec.ofInt 64 31).toNat = (n % ((2 ^ 64 : Nat) : Int)).toNat % 2 ^ 5 := by
    rw [BitVec.toNat_and, BitVec.toNat_ofInt, h, Nat.and_two_pow_sub_one_eq_mod]
  show IntKind.i64.wrap ((BitVec.ofInt 64 n &&& BitVec.ofInt 64 31).toNat : Nat) = n % 32
  rw [key, IntKind.wrap_i64]
  omega
/-- up, not armed, of eight blocks -/
structure Rdy (s : St) : Prop where
  up : s.d.down = false
  arm : s.d.armed ≤ 0
  n8 : s.d.n = 8
theorem rdy_new : Rdy (newS 8) := ⟨rfl, Int.le_refl _, by decide⟩
theorem Rdy.write {s : St} (h : Rdy s) {k : Int} (h0 : 0 ≤ k) (h8 : k < 8) (b : Blk) : (writeS s k b).2 = 0 ∧ Rdy (writeS s k b).1 := by
  rw [writeS_up h.up h.arm h0 (by rw [h.n8]; exact h8)]
  exact ⟨rfl, h.up, h.arm, h.n8⟩
theorem startS_up {s : St} (h : s.d.down = false) : startS s = s := by
  obtain ⟨⟨n, d, c, ca, ar, ma, to, by_⟩, G, lo⟩ := s
  simp only at h
  subst h
  rfl
theorem crashS_down {s : St} (h : s.d.down = true) (mask torn bytes : Int) : crashS s mask torn bytes = s := by unfold crashS; rw [if_pos h]
theorem crashS_isDown (s : St) (mask torn bytes : Int) : (crashS s mask torn bytes).d.down = true := by
  unfold crashS
  split
  · assumption
  · rfl
theorem crashS_calls (s : St) (mask torn bytes : Int) : (crashS s mask torn bytes).d.calls = s.d.calls := by unfold crashS; split <;> rfl
theorem crashS_n (s : St) (mask torn bytes : Int) : (crashS s mask torn bytes).d.n = s.d.n := by unfold crashS; split <;> rfl
theorem crashS_up {s : St} (h : s.d.down = false) (mask torn bytes : Int) : crashS s mask torn bytes = ⟨{ s.d with down := true, armed := 0 }, settleG (resC mask torn (toBytes bytes)) 0 s.G s.lo, []⟩ := by unfold crashS; rw [if_neg (by rw [h]; simp)]
theorem mayS_up {s : St} (h : s.d.down = false) (hn : s.d.n = 8) (j : Nat) (hj : j < 8) : mayS s j = 0 := mayS_in h (by omega) (by rw [hn]; omega)
theorem wf_mod8 (n : Int) : wfK (n % 8) := wf_small (by omega) (by omega)
theorem wf_mod16 (n : Int) : wfK (n % 16) := wf_small (by omega) (by omega)
theorem wf_nat {j : Nat} (h : j ≤ 1000) : wfK (j : Int) := wf_small (by omega) (by omega)
/-- what is not loose stays as it is -/
theorem look_cons {a : Int × Nw} {r : List (Int × Nw)} {k : Int} (h : look (a :: r) k = none) : a.1 ≠ k ∧ look r k = none := by
  unfold look at h ⊢
  rw [List.find?_cons] at h
  split at h
  · simp at h
  · next e => exact ⟨by simpa using e, h⟩
theorem settleG_out (res : Nat → Blk → Blk → Blk) : ∀ (lo : List (Int × Nw)) (i : Nat) (G : Int → Option Blk) (k : Int), look lo k = none → settleG res i G lo k = G k
  | [], _, _, _, _ => rfl
  | a :: r, i, G, k, h => by
    obtain ⟨h1, h2⟩ := look_cons h
    show settleG res (i + 1) (putG G a.1 _) r k = G k
    rw [settleG_out res r _ _ k h2]
    exact if_neg (fun e => h1 e.symm)
end Go.Proofs.Ytedcpmkfanlicaa
