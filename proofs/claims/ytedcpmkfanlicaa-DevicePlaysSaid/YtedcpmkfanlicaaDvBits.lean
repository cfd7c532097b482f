/- Bits of masks; a block that is torn with nothing new, or with all. -/
import Derived.Test.YtedcpmkfanlicaaDvLaw
set_option linter.unusedVariables false
set_option linter.unusedSimpArgs false
namespace Go.Proofs.Ytedcpmkfanlicaa
open Go Go.RowKit Go.Sort Go.Lib Go.Maps
theorem bit_of (m : Int) (hm : u64 m) (j : Nat) (hj : j < 64) : (bits .and .u64 (m / 2 ^ j) 1 == 1) = (BitVec.ofInt 64 m).getLsbD j := by
  obtain ⟨M, rfl⟩ := Int.eq_ofNat_of_zero_le hm.1
  have hM : M < 18446744073709551616 := by have := hm.2; omega
  have e1 : ((M : Int) / 2 ^ j) = ((M / 2 ^ j : Nat) : Int) := by push_cast; rfl
  have e2 : bits .and .u64 ((M : Int) / 2 ^ j) 1 = ((M / 2 ^ j % 2 : Nat) : Int) := by
    rw [e1]
    show IntKind.u64.wrap ((BitVec.ofInt 64 ((M / 2 ^ j : Nat) : Int) &&& BitVec.ofInt 64 1).toNat : Nat) = _
    have h1 : (BitVec.ofInt 64 1).toNat = 2 ^ 1 - 1 := by decide
    have hlt : M / 2 ^ j < 2 ^ 64 := Nat.lt_of_le_of_lt (Nat.div_le_self _ _) hM
    have h2 : (BitVec.ofInt 64 ((M / 2 ^ j : Nat) : Int)).toNat = M / 2 ^ j := by
      rw [BitVec.toNat_ofInt]
      generalize M / 2 ^ j = q at hlt
      omega
    rw [BitVec.toNat_and, h1, Nat.and_two_pow_sub_one_eq_mod, h2, IntKind.wrap_u64]
    omega
  rw [e2]
  have e3 : BitVec.ofInt 64 (M : Int) = BitVec.ofNat 64 M := by
    apply BitVec.eq_of_toNat_eq
    rw [BitVec.toNat_ofInt, BitVec.toNat_ofNat]
    omega
  rw [e3, BitVec.getLsbD_ofNat, Nat.testBit_eq_decide_div_mod_eq]
  have : M / 2 ^ j % 2 < 2 := Nat.mod_lt _ (by decide)
  simp only [hj, decide_true, Bool.true_and]
  by_cases h : M / 2 ^ j % 2 = 1
  · rw [h]; rfl
  · have : M / 2 ^ j % 2 = 0 := by omega
    rw [this]; rfl
theorem bv_back (b : BitVec 64) : BitVec.ofInt 64 (IntKind.u64.wrap (b.toNat : Nat)) = b := by
  apply BitVec.eq_of_toNat_eq
  rw [BitVec.toNat_ofInt, IntKind.wrap_u64]
  have := b.isLt
  omega
theorem u64_wrap (n : Int) : u64 (IntKind.u64.wrap n) := by
  rw [IntKind.wrap_u64]
  exact ⟨by omega, by omega⟩
theorem one_bit (t j : Nat) (ht : t < 64) (hj : j < 64) : (BitVec.ofInt 64 (2 ^ t : Int)).getLsbD j = decide (j = t) := by
  have e3 : BitVec.ofInt 64 (2 ^ t : Int) = BitVec.ofNat 64 (2 ^ t) := by
    have h : (2 ^ t : Int) = ((2 ^ t : Nat) : Int) := by push_cast; rfl
    rw [h]
    apply BitVec.eq_of_toNat_eq
    rw [BitVec.toNat_ofInt, BitVec.toNat_ofNat]
    omega
  rw [e3, BitVec.getLsbD_ofNat, Nat.testBit_two_pow]
  simp only [hj, decide_true, Bool.true_and]
  exact decide_eq_decide.2 ⟨fun h => h.symm, fun h => h.symm⟩
theorem or_bit (m : Int) (t j : Nat) (ht : t < 64) (hj : j < 64) : (BitVec.ofInt 64 (bits .or .u64 m (2 ^ t))).getLsbD j = ((BitVec.ofInt 64 m).getLsbD j || decide (j = t)) := by
  have : bits .or .u64 m (2 ^ t) = IntKind.u64.wrap ((BitVec.ofInt 64 m ||| BitVec.ofInt 64 (2 ^ t)).toNat : Nat) := rfl
  rw [this, bv_back, BitVec.getLsbD_or, one_bit t j ht hj]
theorem not_bit (m : Int) (t j : Nat) (ht : t < 64) (hj : j < 64) : (BitVec.ofInt 64 (bits .andNot .u64 m (2 ^ t))).getLsbD j = ((BitVec.ofInt 64 m).getLsbD j && !decide (j = t)) := by
  have : bits .andNot .u64 m (2 ^ t) = IntKind.u64.wrap ((BitVec.ofInt 64 m &&& ~~~ BitVec.ofInt 64 (2 ^ t)).toNat : Nat) := rfl
  rw [this, bv_back, BitVec.getLsbD_and, BitVec.getLsbD_not, one_bit t j ht hj]
  simp [hj]
theorem settleG_congr {r1 r2 : Nat → Blk → Blk → Blk} : ∀ (lo : List (Int × Nw)) (i : Nat) (G : Int → Option Blk), (∀ k b, G k = some b → Full b) → (∀ x ∈ lo, Full x.2.of) →
    (∀ j old x, i ≤ j → j < i + lo.length → Full old → Full x → r1 j old x = r2 j old x ∧ Full (r1 j old x)) → settleG r1 i G lo = settleG r2 i G lo
  | [], _, _, _, _, _ => rfl
  | a :: r, i, G, hG, hl, h => by
    have fo : Full ((G a.1).getD zeroBlk) := by
      cases hg : G a.1 with
      | none => exact full_zero
      | some u => exact hG _ u hg
    obtain ⟨e, f⟩ := h i _ a.2.of (Nat.le_refl _) (by simp) fo (hl a (by simp))
    show settleG r1 (i + 1) (putG G a.1 (r1 i _ _)) r = settleG r2 (i + 1) (putG G a.1 (r2 i _ _)) r
    rw [← e]
    refine settleG_congr r (i + 1) _ ?_ (fun x hx => hl x (by simp [hx])) (fun j old x h1 h2 => h j old x (by omega) (by simp; omega))
    intro k b hb
    unfold putG at hb
    split at hb
    · cases hb; exact f
    · exact hG k b hb
/-- with all that is new -/
theorem ends_all {w : World} {L : Loc} {s : St} {m : Nat} (H : DvIs w L s m) (hm : m ≤ 30) (mask : Int) (hu : u64 mask) (t : Nat) (ht : t < 8) :
    settleG (resC mask t (toBytes 512)) 0 s.G s.lo = settleG (resC (bits .or .u64 mask (2 ^ t)) (-1) (toBytes 0)) 0 s.G s.lo := by
  obtain ⟨nf, nl, D, a, b⟩ := H.dev
  refine settleG_congr s.lo 0 s.G D.fullF D.fullL fun j old x h1 h2 fo fx => ?_
  have hj : j < 64 := by omega
  have hjm : j % 64 = j := Nat.mod_eq_of_lt hj
  have e5 : toBytes 512 = 512 := by decide
  have ex : x.take 512 ++ old.drop 512 = x := by rw [List.take_of_length_le (by rw [fx.1]; exact Nat.le_refl _), List.drop_of_length_le (by rw [fo.1]; exact Nat.le_refl _), List.append_nil]
  refine ⟨?_, full_resC (toBytes_le _) fo fx⟩
  unfold resC
  rw [e5, ex, hjm, bit_of _ hu j hj, bit_of (bits .or .u64 mask (2 ^ t)) (u64_wrap _) j hj, or_bit mask t j (by omega) hj, if_neg (show ¬ (j : Int) = -1 by omega)]
  by_cases hjt : j = t
  · rw [if_pos (by omega), if_pos (by simp [hjt])]
  · rw [if_neg (by omega)]
    simp [hjt]
/-- with nothing that is new -/
theorem ends_none {w : World} {L : Loc} {s : St} {m : Nat} (H : DvIs w L s m) (hm : m ≤ 30) (mask : Int) (hu : u64 mask) (t : Nat) (ht : t < 8) :
    settleG (resC mask t (toBytes (-3))) 0 s.G s.lo = settleG (resC (bits .andNot .u64 mask (2 ^ t)) (-1) (toBytes 0)) 0 s.G s.lo := by
  obtain ⟨nf, nl, D, a, b⟩ := H.dev
  refine settleG_congr s.lo 0 s.G D.fullF D.fullL fun j old x h1 h2 fo fx => ?_
  have hj : j < 64 := by omega
  have hjm : j % 64 = j := Nat.mod_eq_of_lt hj
  have e5 : toBytes (-3) = 0 := by decide
  have ex : x.take 0 ++ old.drop 0 = old := by simp
  refine ⟨?_, full_resC (toBytes_le _) fo fx⟩
  unfold resC
  rw [e5, ex, hjm, bit_of _ hu j hj, bit_of (bits .andNot .u64 mask (2 ^ t)) (u64_wrap _) j hj, not_bit mask t j (by omega) hj, if_neg (show ¬ (j : Int) = -1 by omega)]
  by_cases hjt : j = t
  · rw [if_pos (by omega), if_neg (by simp [hjt])]
  · rw [if_neg (by omega)]
    simp [hjt]
end Go.Proofs.Ytedcpmkfanlicaa
