/- What Both, rest and Less answer, told by members. -/
import Derived.Test.YtfeomnkgkppdlaaSpLaw
set_option linter.unusedVariables false
set_option linter.unusedSimpArgs false
namespace Go.Proofs.Ytfeomnkgkppdlaa
open Go Go.RowKit Go.Sort Go.Lib

theorem nB_le (b : Bd) : nB b ≤ 256 ^ 24 := by
  unfold nB; split
  · exact Nat.le_refl _
  · exact Nat.le_of_lt (nK_lt _)
theorem nB_from (s : Sp) : nB (fromB s) < 256 ^ 24 := nK_lt _
theorem NL_piece {f t : Bd} (hf : f.en = false) : NL (pieceS f t) = if nB f < nB t then [(nB f, nB t)] else [] := by
  unfold pieceS
  by_cases h : cmpB f t < 0
  · rw [if_pos h, if_pos ((cmpB_lt _ _).1 h)]
    simp only [NL, List.map_cons, List.map_nil, sN_made hf]
  · rw [if_neg h, if_neg (fun h' => h ((cmpB_lt _ _).2 h'))]
    rfl
theorem norm_piece {f t : Bd} (ht : NormB t) : ∀ s ∈ pieceS f t, Norm s := by
  unfold pieceS
  split
  · intro s hs
    rw [List.mem_singleton] at hs
    subst hs
    exact norm_made ht
  · intro s hs; simp at hs
theorem nB_max (d f : Bd) : nB (maxB d f) = max (nB f) (nB d) := by
  unfold maxB; have := cmpB_gt d f; split <;> omega
theorem nB_min (u e : Bd) : nB (minB u e) = min (nB u) (nB e) := by
  unfold minB; have := cmpB_le u e; split <;> omega
theorem max_en {d f : Bd} (h1 : d.en = false) (h2 : f.en = false) : (maxB d f).en = false := by unfold maxB; split <;> assumption
theorem min_norm {u e : Bd} (h1 : NormB u) (h2 : NormB e) : NormB (minB u e) := by unfold minB; split <;> assumption
theorem mem_append (n : Nat) (a b : List (Nat × Nat)) : mem n (a ++ b) ↔ mem n a ∨ mem n b := by
  unfold mem
  constructor
  · rintro ⟨p, hp, h⟩
    rcases List.mem_append.1 hp with hp | hp
    · exact .inl ⟨p, hp, h⟩
    · exact .inr ⟨p, hp, h⟩
  · rintro (⟨p, hp, h⟩ | ⟨p, hp, h⟩)
    · exact ⟨p, List.mem_append.2 (.inl hp), h⟩
    · exact ⟨p, List.mem_append.2 (.inr hp), h⟩
theorem NL_append (a b : List Sp) : NL (a ++ b) = NL a ++ NL b := by simp [NL]
/-- one piece ahead of a clean row -/
theorem piece_front {F T lo : Nat} {R : List (Nat × Nat)} (hlo : lo ≤ F) (hR : Cl (T + 1) R) (hR2 : Cl lo R) : Cl lo ((if F < T then [(F, T)] else []) ++ R) := by
  split
  · rename_i h; exact ⟨hlo, h, hR⟩
  · exact hR2
theorem mem_piece (n F T : Nat) : mem n (if F < T then [(F, T)] else []) ↔ F ≤ n ∧ n < T := by
  split
  · rw [mem_cons]; exact ⟨fun h => h.elim id (fun h => (mem_nil _ h).elim), .inl⟩
  · exact ⟨fun h => (mem_nil _ h).elim, fun h => by omega⟩
theorem both_spec : ∀ (k : Nat) (a b : List Sp) (la lb : Nat), a.length + b.length ≤ k → Cl la (NL a) → Cl lb (NL b) →
    Cl (max la lb) (NL (bothF a b)) ∧ (∀ s ∈ bothF a b, Norm s) ∧ ∀ n, mem n (NL (bothF a b)) ↔ mem n (NL a) ∧ mem n (NL b) := by
  intro k
  induction k with
  | zero =>
    intro a b la lb h _ _
    have : a = [] := List.eq_nil_of_length_eq_zero (by omega)
    subst this
    rw [bothF_nil]
    exact ⟨trivial, fun s hs => by simp at hs, fun n => ⟨fun h => (mem_nil _ h).elim, fun h => h.1⟩⟩
  | succ k ih =>
    intro a b la lb h ha hb
    cases a with
    | nil =>
      rw [bothF_nil]
      exact ⟨trivial, fun s hs => by simp at hs, fun n => ⟨fun h => (mem_nil _ h).elim, fun h => h.1⟩⟩
    | cons x a =>
      cases b with
      | nil =>
        rw [bothF_nil2]
        exact ⟨trivial, fun s hs => by simp at hs, fun n => ⟨fun h => (mem_nil _ h).elim, fun h => h.2⟩⟩
      | cons y b =>
        simp only [List.length_cons] at h
        have hx : la ≤ (sN x).1 ∧ (sN x).1 < (sN x).2 ∧ Cl ((sN x).2 + 1) (NL a) := ha
        have hy : lb ≤ (sN y).1 ∧ (sN y).1 < (sN y).2 ∧ Cl ((sN y).2 + 1) (NL b) := hb
        have hP : NL (pieceS (maxB (fromB y) (fromB x)) (minB (toB x) (toB y))) = if max (sN x).1 (sN y).1 < min (sN x).2 (sN y).2 then [(max (sN x).1 (sN y).1, min (sN x).2 (sN y).2)] else [] := by
          rw [NL_piece (max_en (from_en y) (from_en x)), nB_max, nB_min]; rfl
        have hN := norm_piece (f := maxB (fromB y) (fromB x)) (min_norm (normB_to x) (normB_to y))
        have mx : ∀ n, mem n (NL (x :: a)) ↔ ((sN x).1 ≤ n ∧ n < (sN x).2) ∨ mem n (NL a) := fun n => mem_cons _ _ _
        have my : ∀ n, mem n (NL (y :: b)) ↔ ((sN y).1 ≤ n ∧ n < (sN y).2) ∨ mem n (NL b) := fun n => mem_cons _ _ _
        have lowa : ∀ n, mem n (NL a) → (sN x).2 + 1 ≤ n := fun n hn => Cl.low hx.2.2 hn
        have lowb : ∀ n, mem n (NL b) → (sN y).2 + 1 ≤ n := fun n hn => Cl.low hy.2.2 hn
        have hle : cmpB (toB x) (toB y) ≤ 0 ↔ (sN x).2 ≤ (sN y).2 := cmpB_le _ _
        by_cases hc : cmpB (toB x) (toB y) ≤ 0
        · have hc' := hle.1 hc
          obtain ⟨i1, i2, i3⟩ := ih a (y :: b) ((sN x).2 + 1) lb (by simp only [List.length_cons]; omega) hx.2.2 hb
          rw [bothF_le hc, NL_append, hP]
          refine ⟨piece_front (by omega) (i1.mono (by omega)) (i1.mono (by omega)), fun s hs => ?_, fun n => ?_⟩
          · rcases List.mem_append.1 hs with h | h
            · exact hN s h
            · exact i2 s h
          · rw [mem_append, mem_piece, i3, mx, my]
            constructor
            · rintro (h | ⟨h1, h2⟩)
              · exact ⟨.inl ⟨by omega, by omega⟩, .inl ⟨by omega, by omega⟩⟩
              · exact ⟨.inr h1, h2⟩
            · rintro ⟨h1 | h1, h2⟩
              · rcases h2 with h2 | h2
                · exact .inl ⟨by omega, by omega⟩
                · have := lowb n h2; omega
              · exact .inr ⟨h1, h2⟩
        · have hc' : ¬ (sN x).2 ≤ (sN y).2 := fun h => hc (hle.2 h)
          obtain ⟨i1, i2, i3⟩ := ih (x :: a) b la ((sN y).2 + 1) (by simp only [List.length_cons]; omega) ha hy.2.2
          rw [bothF_gt hc, NL_append, hP]
          refine ⟨piece_front (by omega) (i1.mono (by omega)) (i1.mono (by omega)), fun s hs => ?_, fun n => ?_⟩
          · rcases List.mem_append.1 hs with h | h
            · exact hN s h
            · exact i2 s h
          · rw [mem_append, mem_piece, i3, mx, my]
            constructor
            · rintro (h | ⟨h1, h2⟩)
              · exact ⟨.inl ⟨by omega, by omega⟩, .inl ⟨by omega, by omega⟩⟩
              · exact ⟨h1, .inr h2⟩
            · rintro ⟨h1, h2 | h2⟩
              · rcases h1 with h1 | h1
                · exact .inl ⟨by omega, by omega⟩
                · have := lowa n h1; omega
              · exact .inr ⟨h1, h2⟩
theorem rest_spec : ∀ (ss : List Sp) (a : Bd) (lo : Nat), Cl lo (NL ss) → nB a ≤ lo → NormB a →
    Cl (nB a) (NL (restL a ss)) ∧ (∀ s ∈ restL a ss, Norm s) ∧ ∀ n, mem n (NL (restL a ss)) ↔ (nB a ≤ n ∧ n < 256 ^ 24 ∧ ¬ mem n (NL ss))
  | [], a, lo, _, _, _ => by
    have hle := nB_le a
    have hno : ∀ n, ¬ mem n (NL []) := fun n => mem_nil n
    rw [restL]
    by_cases h : a.en = true
    · rw [if_pos h]
      have : nB a = 256 ^ 24 := by unfold nB; rw [if_pos h]
      exact ⟨trivial, fun s hs => by simp at hs, fun n => ⟨fun h => (mem_nil _ h).elim, fun h => by omega⟩⟩
    · have hf : a.en = false := by simpa using h
      rw [if_neg h]
      have e : NL [madeS a ⟨zeroKey, true⟩] = [(nB a, 256 ^ 24)] := by simp only [NL, List.map_cons, List.map_nil, sN_made hf]; rfl
      have hlt : nB a < 256 ^ 24 := by unfold nB; rw [if_neg h]; exact nK_lt _
      rw [e]
      refine ⟨⟨Nat.le_refl _, hlt, trivial⟩, fun s hs => ?_, fun n => ?_⟩
      · rw [List.mem_singleton] at hs; subst hs; exact norm_made (fun _ => rfl)
      · rw [mem_cons]
        exact ⟨fun h => h.elim (fun h => ⟨h.1, h.2, hno n⟩) (fun h => (mem_nil _ h).elim), fun h => .inl ⟨h.1, h.2.1⟩⟩
  | s :: ss, a, lo, h, ha, hn => by
    have hs : lo ≤ (sN s).1 ∧ (sN s).1 < (sN s).2 ∧ Cl ((sN s).2 + 1) (NL ss) := h
    have hM : (sN s).1 < 256 ^ 24 := nB_from s
    obtain ⟨i1, i2, i3⟩ := rest_spec ss (toB s) ((sN s).2 + 1) hs.2.2 (Nat.le_succ _) (normB_to s)
    have e2 : nB (toB s) = (sN s).2 := rfl
    rw [e2] at i1 i3
    have hen : a.en = false := by
      cases he : a.en with
      | false => rfl
      | true => have : nB a = 256 ^ 24 := by unfold nB; rw [if_pos he]
                omega
    have hM2 : (sN s).2 ≤ 256 ^ 24 := nB_le _
    have hP : NL (pieceS a (fromB s)) = if nB a < (sN s).1 then [(nB a, (sN s).1)] else [] := NL_piece hen
    have lows : ∀ n, mem n (NL ss) → (sN s).2 + 1 ≤ n := fun n hn => Cl.low hs.2.2 hn
    have ms : ∀ n, mem n (NL (s :: ss)) ↔ ((sN s).1 ≤ n ∧ n < (sN s).2) ∨ mem n (NL ss) := fun n => mem_cons _ _ _
    rw [restL, NL_append, hP]
    refine ⟨piece_front (Nat.le_refl _) (i1.mono (by omega)) (i1.mono (by omega)), fun x hx => ?_, fun n => ?_⟩
    · rcases List.mem_append.1 hx with h | h
      · exact norm_piece (f := a) (t := fromB s) (fun h => by cases h) x h
      · exact i2 x h
    · rw [mem_append, mem_piece, i3, ms]
      constructor
      · rintro (h | ⟨h1, h2, h3⟩)
        · refine ⟨h.1, by omega, ?_⟩
          rintro (h' | h')
          · omega
          · have := lows n h'; omega
        · refine ⟨by omega, h2, ?_⟩
          rintro (h' | h')
          · omega
          · exact h3 h'
      · rintro ⟨h1, h2, h3⟩
        by_cases hlt : n < (sN s).1
        · exact .inl ⟨h1, hlt⟩
        · refine .inr ⟨?_, h2, fun h' => h3 (.inr h')⟩
          by_cases h4 : n < (sN s).2
          · exact (h3 (.inl ⟨by omega, h4⟩)).elim
          · omega
/-- a clean answer, told by its members -/
def Tells (out : List Sp) (M : Nat → Prop) : Prop := Cl 0 (NL out) ∧ (∀ s ∈ out, Norm s) ∧ ∀ n, mem n (NL out) ↔ M n
theorem Tells.unique {a b : List Sp} {M N : Nat → Prop} (ha : Tells a M) (hb : Tells b N) (h : ∀ n, M n ↔ N n) : a = b :=
  same_members ha.1 hb.1 ha.2.1 hb.2.1 (fun n => (ha.2.2 n).trans ((h n).trans (hb.2.2 n).symm))
theorem mem_top {ss : List Sp} {n : Nat} (h : mem n (NL ss)) : n < 256 ^ 24 := by
  obtain ⟨p, hp, h1⟩ := h
  obtain ⟨s, _, rfl⟩ := List.mem_map.1 hp
  have := nB_le (toB s)
  have h2 : n < nB (toB s) := h1.2
  omega
theorem tells_clean {ss out : List Sp} (h : CleanOf ss out) : Tells out (fun n => mem n (NL ss)) := clean_spec h
theorem tells_both {xa xb out : List Sp} (h : BothOf xa xb out) : Tells out (fun n => mem n (NL xa) ∧ mem n (NL xb)) := by
  obtain ⟨ca, cb, h1, h2, rfl⟩ := h
  have a := clean_spec h1
  have b := clean_spec h2
  obtain ⟨i1, i2, i3⟩ := both_spec _ ca cb 0 0 (Nat.le_refl _) a.1 b.1
  exact ⟨i1, i2, fun n => by rw [i3, a.2.2, b.2.2]⟩
theorem nB_zero : nB zeroBd = 0 := by decide +kernel
theorem tells_less {xa xb out : List Sp} (h : LessOf xa xb out) : Tells out (fun n => mem n (NL xa) ∧ ¬ mem n (NL xb)) := by
  obtain ⟨cb, h1, h2⟩ := h
  have b := clean_spec h1
  obtain ⟨i1, i2, i3⟩ := rest_spec cb zeroBd 0 b.1 (by rw [nB_zero]; exact Nat.le_refl _) (fun h => by cases h)
  have t := tells_both h2
  refine ⟨t.1, t.2.1, fun n => (t.2.2 n).trans ?_⟩
  show mem n (NL xa) ∧ mem n (NL (restL zeroBd cb)) ↔ mem n (NL xa) ∧ ¬ mem n (NL xb)
  rw [i3, b.2.2, nB_zero]
  exact ⟨fun ⟨h1, _, _, h2⟩ => ⟨h1, h2⟩, fun ⟨h1, h2⟩ => ⟨h1, Nat.zero_le _, mem_top h1, h2⟩⟩
end Go.Proofs.Ytfeomnkgkppdlaa
