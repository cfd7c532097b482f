/- The order of keys: bytes.Compare's answer is a total order; a key in a span; a sorted list of keys. No program is named here. -/
import Derived.Test.YtfeomnkgkppdlaaCells
set_option linter.unusedVariables false
set_option linter.unusedSimpArgs false
namespace Go.Proofs.Ytfeomnkgkppdlaa
open Go Go.RowKit Go.Sort Go.Lib

theorem cb_lt : ∀ a b : List UInt8, Lib.compareBytes a b < 0 ↔ a < b
  | [], [] => by simp [Lib.compareBytes]
  | [], _ :: _ => by simp [Lib.compareBytes]
  | _ :: _, [] => by simp [Lib.compareBytes]
  | x :: a, y :: b => by
    have ih := cb_lt a b
    unfold Lib.compareBytes
    rw [List.cons_lt_cons_iff]
    by_cases h1 : x < y
    · simp [h1]
    · by_cases h2 : y < x
      · simp [h1, h2]
        intro e
        subst e
        exact absurd h2 h1
      · have e : x = y := UInt8.le_antisymm (UInt8.not_lt.1 h2) (UInt8.not_lt.1 h1)
        subst e
        simp [h1, ih]
theorem cb_eq : ∀ a b : List UInt8, Lib.compareBytes a b = 0 ↔ a = b
  | [], [] => by simp [Lib.compareBytes]
  | [], _ :: _ => by simp [Lib.compareBytes]
  | _ :: _, [] => by simp [Lib.compareBytes]
  | x :: a, y :: b => by
    have ih := cb_eq a b
    unfold Lib.compareBytes
    by_cases h1 : x < y
    · simp [h1]
      intro e; subst e; exact absurd h1 (UInt8.lt_irrefl _)
    · by_cases h2 : y < x
      · simp [h1, h2]
        intro e; subst e; exact absurd h2 h1
      · have e : x = y := UInt8.le_antisymm (UInt8.not_lt.1 h2) (UInt8.not_lt.1 h1)
        subst e
        simp [h1, ih]
theorem cb_gt : ∀ a b : List UInt8, 0 < Lib.compareBytes a b ↔ b < a
  | [], [] => by simp [Lib.compareBytes]
  | [], _ :: _ => by simp [Lib.compareBytes]
  | _ :: _, [] => by simp [Lib.compareBytes]
  | x :: a, y :: b => by
    have ih := cb_gt a b
    unfold Lib.compareBytes
    rw [List.cons_lt_cons_iff]
    by_cases h1 : x < y
    · have h2 : ¬ y < x := fun h => UInt8.lt_irrefl _ (UInt8.lt_trans h h1)
      simp [h1, h2]
      intro e; subst e; exact absurd h1 (UInt8.lt_irrefl _)
    · by_cases h2 : y < x
      · simp [h1, h2]
      · have e : x = y := UInt8.le_antisymm (UInt8.not_lt.1 h2) (UInt8.not_lt.1 h1)
        subst e
        simp [h1, ih]

/-- is a key less than another one -/
def ltK (a b : Key) : Bool := decide (cmpK a b < 0)
theorem ltK_iff (a b : Key) : ltK a b = true ↔ a.toList < b.toList := by simp [ltK, cmpK, cb_lt]
theorem ltK_irrefl (a : Key) : ltK a a = false := by
  cases h : ltK a a with
  | false => rfl
  | true => exact absurd ((ltK_iff _ _).1 h) (List.lt_irrefl _)
theorem ltK_trans {a b c : Key} (h : ltK a b = true) (k : ltK b c = true) : ltK a c = true :=
  (ltK_iff _ _).2 (List.lt_trans ((ltK_iff _ _).1 h) ((ltK_iff _ _).1 k))
theorem ltK_total {a b : Key} (h : ltK a b = false) (k : ltK b a = false) : a = b := by
  have h1 : ¬ cmpK a b < 0 := by simpa [ltK] using h
  have k1 : ¬ b.toList < a.toList := by rw [← ltK_iff]; simp [k]
  have : cmpK a b = 0 := by
    have : ¬ 0 < cmpK a b := fun h => k1 ((cb_gt _ _).1 h)
    omega
  have := (cb_eq _ _).1 this
  exact Vector.toList_inj.1 this
theorem cmpK_lt (a b : Key) : cmpK a b < 0 ↔ ltK a b = true := by simp [ltK]
theorem cmpK_gt (a b : Key) : 0 < cmpK a b ↔ ltK b a = true := by
  rw [ltK_iff]; exact cb_gt _ _
theorem cmpK_eq (a b : Key) : cmpK a b = 0 ↔ a = b := by
  rw [show cmpK a b = 0 ↔ a.toList = b.toList from cb_eq _ _, Vector.toList_inj]
/-- not less is transitive: a <= b, b <= c -/
theorem leK_trans {a b c : Key} (h : ltK b a = false) (k : ltK c b = false) : ltK c a = false := by
  cases hca : ltK c a with
  | false => rfl
  | true =>
    cases hab : ltK a b with
    | true => exact absurd (ltK_trans hca hab) (by simp [k])
    | false => have e := ltK_total hab h; subst e; rw [k] at hca; exact absurd hca (by simp)
theorem ltK_leK {a b c : Key} (h : ltK a b = true) (k : ltK c b = false) : ltK a c = true := by
  cases hac : ltK a c with
  | true => rfl
  | false => have := leK_trans k hac; rw [h] at this; exact absurd this (by simp)
theorem leK_ltK {a b c : Key} (h : ltK b a = false) (k : ltK b c = true) : ltK a c = true := by
  cases hac : ltK a c with
  | true => rfl
  | false => have := leK_trans hac h; rw [k] at this; exact absurd this (by simp)
theorem ltK_asymm {a b : Key} (h : ltK a b = true) : ltK b a = false := by
  cases k : ltK b a with
  | false => rfl
  | true => have := ltK_trans h k; rw [ltK_irrefl] at this; exact absurd this (by simp)
theorem ltK_swo : SWO ltK where
  irrefl x := ltK_irrefl x
  trans x y z h1 h2 := ltK_trans h1 h2
  ntrans x y z h1 h2 := leK_trans h2 h1

/-- the first byte that parts two keys decides -/
theorem ltK_first (a b : Key) (k : Nat) (hk : k < 24) (he : ∀ t (h : t < k), a[t]'(by omega) = b[t]'(by omega)) (hne : a[k] ≠ b[k]) : ltK a b = decide (a[k] < b[k]) := by
  have key : ∀ (x y : List UInt8) (k : Nat) (hx : k < x.length) (hy : k < y.length), (∀ t (h : t < k), x[t]'(by omega) = y[t]'(by omega)) → x[k] ≠ y[k] → (Lib.compareBytes x y < 0 ↔ x[k] < y[k]) := by
    intro x
    induction x with
    | nil => intro y k hx; simp at hx
    | cons u x ih =>
      intro y k hx hy he hne
      cases y with
      | nil => simp at hy
      | cons v y =>
        cases k with
        | zero =>
          simp only [List.getElem_cons_zero] at hne ⊢
          unfold Lib.compareBytes
          by_cases h1 : u < v
          · simp [h1]
          · by_cases h2 : v < u
            · simp [h1, h2]
            · exact absurd (UInt8.le_antisymm (UInt8.not_lt.1 h2) (UInt8.not_lt.1 h1)) hne
        | succ k =>
          have e0 := he 0 (Nat.succ_pos _)
          simp only [List.getElem_cons_zero] at e0
          subst e0
          simp only [List.getElem_cons_succ] at hne ⊢
          unfold Lib.compareBytes
          have hn := UInt8.lt_irrefl u
          simp only [hn, if_false]
          exact ih y k (by simpa using hx) (by simpa using hy) (fun t h => by have := he (t + 1) (by omega); simpa using this) hne
  have h := key a.toList b.toList k (by simpa using hk) (by simpa using hk) (fun t h => by simpa using he t h) (by simpa using hne)
  simp only [Vector.getElem_toList] at h
  simp [ltK, cmpK, h]
theorem ltK_none (a b : Key) (he : ∀ t (h : t < 24), a[t] = b[t]) : ltK a b = false := by
  have : a = b := Vector.ext he
  subst this
  exact ltK_irrefl a

/-- a key lies in a span -/
def inSp (k : Key) (s : Sp) : Bool := !ltK k s.fr && (s.en || ltK k s.to)
end Go.Proofs.Ytfeomnkgkppdlaa
