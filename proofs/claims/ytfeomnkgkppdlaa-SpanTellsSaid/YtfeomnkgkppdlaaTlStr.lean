/- Bounds as the reference tells them: by strings. -/
import Derived.Test.YtfeomnkgkppdlaaSpHas
import Derived.Test.YtfeomnkgkppdlaaSpRef
import Derived.Test.YtfeomnkgkppdlaaSpLaw2
import Derived.Lib.BufferWrite
import Derived.Deep.RegionHeld3
import Derived.Deep.LoopGhost
import Derived.Deep.CutBlock
import Derived.Deep.DeepCutAuto
set_option linter.unusedVariables false
set_option linter.unusedSimpArgs false
namespace Go.Proofs.Ytfeomnkgkppdlaa
open Go Go.RowKit Go.Sort Go.Lib Go.Deep
attribute [local go_sem ↓] run_size24 run_size49 run_size25
attribute [local simp high] run_size24x run_size49x run_size25x
def ffs (t : Nat) : ByteArray := ⟨(List.replicate t 255).toArray⟩
theorem ffs_size (t : Nat) : (ffs t).size = t := by show (List.replicate t 255).toArray.size = t; simp
theorem ffs_next (t : Nat) : ffs t ++ ⟨#[255]⟩ = ffs (t + 1) := by
  apply ByteArray.ext
  apply Array.toList_inj.1
  rw [ByteArray.data_append, Array.toList_append]
  show List.replicate t 255 ++ [255] = List.replicate (t + 1) 255
  rw [List.replicate_succ']
/-- a bound's string -/
def strBd (b : Bd) : ByteArray := if b.en then ffs 25 else strK b.key
theorem ffs_list (t : Nat) : (ffs t).toList = List.replicate t 255 := by rw [ByteArray.toList_eq]; rfl
theorem below_ffs : ∀ (n : Nat) (x : List UInt8), x.length = n → x < List.replicate (n + 1) (255 : UInt8)
  | 0, [], _ => by simp
  | n + 1, a :: x, h => by
    rw [List.replicate_succ, List.cons_lt_cons_iff]
    have ha : a.toNat < 256 := UInt8.toNat_lt a
    by_cases e : a = 255
    · exact .inr ⟨e, below_ffs n x (by simpa using h)⟩
    · left
      rw [UInt8.lt_iff_toNat_lt]
      have : a.toNat ≠ 255 := fun h' => e (UInt8.toNat_inj.1 h')
      show a.toNat < 255
      omega
theorem above_ffs : ∀ (n : Nat) (x : List UInt8), x.length = n → ¬ List.replicate (n + 1) (255 : UInt8) < x
  | 0, [], _ => by simp
  | n + 1, a :: x, h => by
    rw [List.replicate_succ, List.cons_lt_cons_iff]
    have ha : a.toNat < 256 := UInt8.toNat_lt a
    rintro (h' | ⟨_, h'⟩)
    · rw [UInt8.lt_iff_toNat_lt] at h'
      have : (255 : UInt8).toNat = 255 := rfl
      omega
    · exact above_ffs n x (by simpa using h) h'
theorem same_ffs : ∀ (n : Nat), ¬ List.replicate n (255 : UInt8) < List.replicate n 255
  | 0 => by simp
  | n + 1 => by
    rw [List.replicate_succ, List.cons_lt_cons_iff]
    rintro (h | ⟨_, h⟩)
    · rw [UInt8.lt_iff_toNat_lt] at h; omega
    · exact same_ffs n h
theorem ltK_num (a b : Key) : ltK a b = decide (nK a < nK b) := by
  rw [Bool.eq_iff_iff, ltK_iff, decide_eq_true_eq]
  exact val_lex _ _ (by rw [Vector.length_toList, Vector.length_toList])
theorem strBd_less (a b : Bd) : Op.bytesLess (strBd a).toList (strBd b).toList = decide (nB a < nB b) := by
  unfold strBd nB
  have la := nK_lt a.key
  have lb := nK_lt b.key
  have ka : a.key.toList.length = 24 := by rw [Vector.length_toList]
  have kb : b.key.toList.length = 24 := by rw [Vector.length_toList]
  cases ha : a.en <;> cases hb : b.en <;> simp only [Bool.false_eq_true, if_true, if_false]
  · rw [strK_less, ltK_num]
  · rw [bytesLess_lt, strK_list, ffs_list]
    rw [decide_eq_true (below_ffs 24 _ ka), decide_eq_true (show nK a.key < 256 ^ 24 from la)]
  · rw [bytesLess_lt, strK_list, ffs_list]
    rw [decide_eq_false (above_ffs 24 _ kb), decide_eq_false (by omega)]
  · rw [bytesLess_lt, ffs_list]
    rw [decide_eq_false (same_ffs 25), decide_eq_false (by omega)]
theorem strBd_eq {a b : Bd} (h : nB a = nB b) : strBd a = strBd b := by
  unfold nB at h
  unfold strBd
  have la := nK_lt a.key
  have lb := nK_lt b.key
  cases ha : a.en <;> cases hb : b.en <;> rw [ha, hb] at h <;> simp only [Bool.false_eq_true, if_true, if_false] at h ⊢
  · rw [nK_inj h]
  · omega
  · omega
theorem strBd_same (a b : Bd) : ((strBd a).toList == (strBd b).toList) = decide (nB a = nB b) := by
  by_cases h : nB a = nB b
  · rw [strBd_eq h, decide_eq_true h]; simp
  · rw [decide_eq_false h]
    have h1 := strBd_less a b
    have h2 := strBd_less b a
    have h3 := strBd_less b b
    rw [Bool.eq_false_iff]
    intro e
    have e' := eq_of_beq e
    rw [e'] at h1 h2
    rw [h3] at h1 h2
    have i1 : ¬ nB b < nB b := Nat.lt_irrefl _
    rw [decide_eq_false i1] at h1 h2
    have j1 := of_decide_eq_false h1.symm
    have j2 := of_decide_eq_false h2.symm
    omega
set_option maxHeartbeats 1000000 in
theorem end_any (w : World) : Calls Try.prog 64 #[] w fun e w' => e = .returned (.string (ffs 25)) ∧ w' = w := by
  go_enter Try.func64, Try.ntmps64
  go_wp2
  go_loopg [1, 2] 25 (fun kx s1 s2 wr => ∃ t : Nat, s1 = .string (ffs t) ∧ s2 = .int .i64 t ∧ t ≤ 25 ∧ 25 - t ≤ kx ∧ w = wr)
  case atStart => exact ⟨0, rfl, rfl, Nat.zero_le _, by omega, rfl⟩
  case round =>
    obtain ⟨t, rfl, rfl, ht, hg, rfl⟩ := hrel
    by_cases hlt : t < 25
    · have z1 : (t : Int) < 25 := by omega
      have hA := ffs_next t
      have hS := ffs_size t
      have hT : t ≤ 25 := by omega
      go_wp2
      go_roundg (25 - (t + 1))
      case measure => omega
      case rel => exact ⟨t + 1, rfl, by go_num, by omega, Nat.le_refl _, rfl⟩
    · obtain rfl : t = 25 := by omega
      have z1 : ¬ ((25 : Nat) : Int) < 25 := by omega
      go_wp2
      go_ret
      exact ⟨rfl, rfl⟩
end Go.Proofs.Ytfeomnkgkppdlaa
