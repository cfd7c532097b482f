/- Bounds as numbers; clean rows of intervals are told by their members. -/
import Derived.Test.YtfeomnkgkppdlaaSpSame
import Derived.Test.YtfeomnkgkppdlaaOrder
set_option linter.unusedVariables false
set_option linter.unusedSimpArgs false
namespace Go.Proofs.Ytfeomnkgkppdlaa
open Go Go.RowKit Go.Sort Go.Lib

def val : List UInt8 → Nat
  | [] => 0
  | x :: r => x.toNat * 256 ^ r.length + val r
theorem val_lt : ∀ l : List UInt8, val l < 256 ^ l.length
  | [] => by simp [val]
  | x :: r => by
    have h := val_lt r
    have hx : x.toNat ≤ 255 := by have := x.toNat_lt; omega
    have h2 : x.toNat * 256 ^ r.length ≤ 255 * 256 ^ r.length := Nat.mul_le_mul_right _ hx
    simp only [val, List.length_cons, Nat.pow_succ]
    omega
theorem val_lex : ∀ a b : List UInt8, a.length = b.length → (a < b ↔ val a < val b)
  | [], [], _ => by simp [val]
  | [], _ :: _, h => by simp at h
  | _ :: _, [], h => by simp at h
  | x :: a, y :: b, h => by
    have hl : a.length = b.length := by simpa using h
    have ih := val_lex a b hl
    have ha := val_lt a
    have hb := val_lt b
    rw [List.cons_lt_cons_iff, ih]
    simp only [val]
    rw [hl] at ha ⊢
    generalize 256 ^ b.length = p at ha hb ⊢
    constructor
    · rintro (h1 | ⟨rfl, h2⟩)
      · have h1' : x.toNat + 1 ≤ y.toNat := UInt8.lt_iff_toNat_lt.1 h1
        have := Nat.mul_le_mul_right p h1'
        rw [Nat.add_mul, Nat.one_mul] at this
        omega
      · omega
    · intro h1
      by_cases e : x = y
      · subst e; exact .inr ⟨rfl, by omega⟩
      · left
        rw [UInt8.lt_iff_toNat_lt]
        have hne : x.toNat ≠ y.toNat := fun e' => e (UInt8.toNat_inj.1 e')
        rcases Nat.lt_or_ge x.toNat y.toNat with h2 | h2
        · exact h2
        · have h3 : y.toNat + 1 ≤ x.toNat := by omega
          have := Nat.mul_le_mul_right p h3
          rw [Nat.add_mul, Nat.one_mul] at this
          omega
def nK (k : Key) : Nat := val k.toList
theorem nK_lt (k : Key) : nK k < 256 ^ 24 := by have := val_lt k.toList; rwa [Vector.length_toList] at this
theorem cmpN_lt (a b : Key) : cmpK a b < 0 ↔ nK a < nK b := by
  unfold cmpK nK; rw [cb_lt, val_lex _ _ (by rw [Vector.length_toList, Vector.length_toList])]
theorem cmpN_gt (a b : Key) : 0 < cmpK a b ↔ nK b < nK a := by
  unfold cmpK nK; rw [cb_gt, val_lex _ _ (by rw [Vector.length_toList, Vector.length_toList])]
theorem nK_inj {a b : Key} (h : nK a = nK b) : a = b := by
  have h1 := cmpN_lt a b
  have h2 := cmpN_gt a b
  have h3 : cmpK a b = 0 := by omega
  exact Vector.toList_inj.1 ((cb_eq _ _).1 h3)
/-- a bound's number: the end stands behind all keys -/
def nB (b : Bd) : Nat := if b.en then 256 ^ 24 else nK b.key
theorem cmpB_lt (a b : Bd) : cmpB a b < 0 ↔ nB a < nB b := by
  obtain ⟨ka, ea⟩ := a
  obtain ⟨kb, eb⟩ := b
  have h1 := nK_lt ka
  have h2 := nK_lt kb
  have h3 := cmpN_lt ka kb
  cases ea <;> cases eb <;> simp only [cmpB, nB, if_true, if_false, Bool.false_eq_true] <;> omega
theorem cmpB_gt (a b : Bd) : 0 < cmpB a b ↔ nB b < nB a := by
  obtain ⟨ka, ea⟩ := a
  obtain ⟨kb, eb⟩ := b
  have h1 := nK_lt ka
  have h2 := nK_lt kb
  have h3 := cmpN_gt ka kb
  cases ea <;> cases eb <;> simp only [cmpB, nB, if_true, if_false, Bool.false_eq_true] <;> omega
theorem cmpB_le (a b : Bd) : cmpB a b ≤ 0 ↔ nB a ≤ nB b := by
  have := cmpB_gt a b; omega

/-- a row of intervals, each behind the one before with a gap -/
def Cl : Nat → List (Nat × Nat) → Prop
  | _, [] => True
  | lo, p :: r => lo ≤ p.1 ∧ p.1 < p.2 ∧ Cl (p.2 + 1) r
def mem (n : Nat) (L : List (Nat × Nat)) : Prop := ∃ p ∈ L, p.1 ≤ n ∧ n < p.2
theorem mem_nil (n : Nat) : ¬ mem n [] := fun ⟨p, h, _⟩ => by simp at h
theorem mem_cons (n : Nat) (p : Nat × Nat) (r : List (Nat × Nat)) : mem n (p :: r) ↔ (p.1 ≤ n ∧ n < p.2) ∨ mem n r := by
  constructor
  · rintro ⟨q, hq, h⟩
    rcases List.mem_cons.1 hq with rfl | hq
    · exact .inl h
    · exact .inr ⟨q, hq, h⟩
  · rintro (h | ⟨q, hq, h⟩)
    · exact ⟨p, by simp, h⟩
    · exact ⟨q, by simp [hq], h⟩
theorem Cl.low : ∀ {L : List (Nat × Nat)} {lo n : Nat}, Cl lo L → mem n L → lo ≤ n
  | [], _, _, _, h => (mem_nil _ h).elim
  | p :: r, lo, n, ⟨h1, h2, h3⟩, h => by
    rcases (mem_cons n p r).1 h with h | h
    · omega
    · have := Cl.low h3 h; omega
theorem Cl.mono : ∀ {L : List (Nat × Nat)} {lo lo' : Nat}, Cl lo L → lo' ≤ lo → Cl lo' L
  | [], _, _, _, _ => trivial
  | p :: r, _, _, ⟨h1, h2, h3⟩, h => ⟨by omega, h2, h3⟩
/-- a clean row is told by its members -/
theorem Cl.unique : ∀ {L L' : List (Nat × Nat)} {lo lo' : Nat}, Cl lo L → Cl lo' L' → (∀ n, mem n L ↔ mem n L') → L = L'
  | [], [], _, _, _, _, _ => rfl
  | [], p :: r, _, _, _, ⟨_, h2, _⟩, h => ((mem_nil p.1) ((h p.1).2 ((mem_cons _ _ _).2 (.inl ⟨Nat.le_refl _, h2⟩)))).elim
  | p :: r, [], _, _, ⟨_, h2, _⟩, _, h => ((mem_nil p.1) ((h p.1).1 ((mem_cons _ _ _).2 (.inl ⟨Nat.le_refl _, h2⟩)))).elim
  | p :: r, q :: s, _, _, ⟨_, p2, p3⟩, ⟨_, q2, q3⟩, h => by
    have hf : ∀ n, mem n (p :: r) → p.1 ≤ n := fun n hn => Cl.low (L := p :: r) (lo := p.1) ⟨Nat.le_refl _, p2, p3⟩ hn
    have hg : ∀ n, mem n (q :: s) → q.1 ≤ n := fun n hn => Cl.low (L := q :: s) (lo := q.1) ⟨Nat.le_refl _, q2, q3⟩ hn
    have m1 : mem p.1 (p :: r) := (mem_cons _ _ _).2 (.inl ⟨Nat.le_refl _, p2⟩)
    have m2 : mem q.1 (q :: s) := (mem_cons _ _ _).2 (.inl ⟨Nat.le_refl _, q2⟩)
    have e1 : p.1 = q.1 := Nat.le_antisymm (hf _ ((h _).2 m2)) (hg _ ((h _).1 m1))
    have np : ¬ mem p.2 (p :: r) := fun hm => by
      rcases (mem_cons _ _ _).1 hm with h | h
      · omega
      · have := Cl.low p3 h; omega
    have nq : ¬ mem q.2 (q :: s) := fun hm => by
      rcases (mem_cons _ _ _).1 hm with h | h
      · omega
      · have := Cl.low q3 h; omega
    have e2 : p.2 = q.2 := by
      rcases Nat.lt_trichotomy p.2 q.2 with hl | hl | hl
      · exact (np ((h _).2 ((mem_cons _ _ _).2 (.inl ⟨by omega, hl⟩)))).elim
      · exact hl
      · exact (nq ((h _).1 ((mem_cons _ _ _).2 (.inl ⟨by omega, hl⟩)))).elim
    have er : r = s := Cl.unique p3 q3 fun n => by
      have hn := h n
      rw [mem_cons, mem_cons] at hn
      constructor
      · intro hm
        have := Cl.low p3 hm
        rcases hn.1 (.inr hm) with h' | h'
        · omega
        · exact h'
      · intro hm
        have := Cl.low q3 hm
        rcases hn.2 (.inr hm) with h' | h'
        · omega
        · exact h'
    rw [er, show p = q from Prod.ext e1 e2]
end Go.Proofs.Ytfeomnkgkppdlaa
