/- What Clean answers, told by members. -/
import Derived.Test.YtfeomnkgkppdlaaSpNum
set_option linter.unusedVariables false
set_option linter.unusedSimpArgs false
namespace Go.Proofs.Ytfeomnkgkppdlaa
open Go Go.RowKit Go.Sort Go.Lib

def sN (s : Sp) : Nat × Nat := (nB (fromB s), nB (toB s))
def NL (ss : List Sp) : List (Nat × Nat) := ss.map sN
/-- a span that ends behind all keys names no other end -/
def Norm (s : Sp) : Prop := s.en = true → s.to = zeroKey
def NormB (b : Bd) : Prop := b.en = true → b.key = zeroKey
theorem normB_to (s : Sp) : NormB (toB s) := fun h => by
  unfold toB at h ⊢
  split <;> simp_all
theorem from_en (s : Sp) : (fromB s).en = false := rfl
theorem sN_made {f t : Bd} (hf : f.en = false) : sN (madeS f t) = (nB f, nB t) := by
  obtain ⟨kf, ef⟩ := f
  obtain ⟨kt, et⟩ := t
  simp only at hf
  subst hf
  cases et <;> simp [sN, madeS, fromB, toB, nB]
theorem norm_made {f t : Bd} (ht : NormB t) : Norm (madeS f t) := fun h => ht h
theorem sN_inj {a b : Sp} (ha : Norm a) (hb : Norm b) (h : sN a = sN b) : a = b := by
  obtain ⟨f, t, e⟩ := a
  obtain ⟨f', t', e'⟩ := b
  simp only [sN, Prod.mk.injEq, fromB, nB, Bool.false_eq_true, if_false] at h
  have h1 := nK_inj h.1
  have h2 := h.2
  have l1 := nK_lt t
  have l2 := nK_lt t'
  subst h1
  cases e <;> cases e' <;> simp only [toB, Bool.false_eq_true, if_false, if_true] at h2
  · rw [nK_inj h2]
  · omega
  · omega
  · have := ha rfl; have := hb rfl; simp only at *; subst_vars; rfl
theorem NL_inj : ∀ {a b : List Sp}, (∀ s ∈ a, Norm s) → (∀ s ∈ b, Norm s) → NL a = NL b → a = b
  | [], [], _, _, _ => rfl
  | [], _ :: _, _, _, h => by simp [NL] at h
  | _ :: _, [], _, _, h => by simp [NL] at h
  | x :: a, y :: b, ha, hb, h => by
    simp only [NL, List.map_cons, List.cons.injEq] at h
    rw [sN_inj (ha x (by simp)) (hb y (by simp)) h.1, NL_inj (fun s hs => ha s (by simp [hs])) (fun s hs => hb s (by simp [hs])) h.2]

def goN (f t : Nat) : List (Nat × Nat) → List (Nat × Nat)
  | [] => [(f, t)]
  | p :: r => if p.1 ≤ t then goN f (max t p.2) r else (f, t) :: goN p.1 p.2 r
def cleanN : List (Nat × Nat) → List (Nat × Nat)
  | [] => []
  | p :: r => goN p.1 p.2 r
theorem joinS_last (out : List Sp) (l s : Sp) : joinS (out ++ [l]) s = if cmpB (fromB s) (toB l) ≤ 0 then out ++ [madeS (fromB l) (if 0 < cmpB (toB s) (toB l) then toB s else toB l)] else out ++ [l] ++ [madeS (fromB s) (toB s)] := by
  unfold joinS
  rw [List.getLast?_append]
  simp
theorem fold_go : ∀ (ss out : List Sp) (l : Sp), Norm l → NL (ss.foldl joinS (out ++ [l])) = NL out ++ goN (sN l).1 (sN l).2 (NL ss) ∧ ((∀ s ∈ out, Norm s) → ∀ s ∈ ss.foldl joinS (out ++ [l]), Norm s)
  | [], out, l, hl => by
    refine ⟨by simp [NL, goN], fun ho s hs => ?_⟩
    simp only [List.foldl_nil, List.mem_append, List.mem_singleton] at hs
    rcases hs with h | rfl
    · exact ho s h
    · exact hl
  | s :: ss, out, l, hl => by
    rw [List.foldl_cons, joinS_last]
    by_cases hc : cmpB (fromB s) (toB l) ≤ 0
    · rw [if_pos hc]
      have hn : NormB (if 0 < cmpB (toB s) (toB l) then toB s else toB l) := by split <;> exact normB_to _
      have ih := fold_go ss out _ (norm_made (f := fromB l) hn)
      have e1 : nB (if 0 < cmpB (toB s) (toB l) then toB s else toB l) = max (nB (toB l)) (nB (toB s)) := by
        have := cmpB_gt (toB s) (toB l)
        split <;> omega
      rw [sN_made (from_en l), e1] at ih
      refine ⟨?_, ih.2⟩
      rw [ih.1]
      have h2 := (cmpB_le _ _).1 hc
      show _ = NL out ++ goN (nB (fromB l)) (nB (toB l)) (sN s :: NL ss)
      rw [goN, if_pos (show (sN s).1 ≤ nB (toB l) from h2)]
      rfl
    · rw [if_neg hc]
      have ih := fold_go ss (out ++ [l]) _ (norm_made (f := fromB s) (normB_to s))
      rw [sN_made (from_en s)] at ih
      refine ⟨?_, fun ho => ih.2 (fun x hx => ?_)⟩
      · rw [ih.1]
        have h2 : ¬ nB (fromB s) ≤ nB (toB l) := fun h => hc ((cmpB_le _ _).2 h)
        show _ = NL out ++ goN (nB (fromB l)) (nB (toB l)) (sN s :: NL ss)
        rw [goN, if_neg (show ¬ (sN s).1 ≤ nB (toB l) from h2)]
        simp [NL, sN]
      · simp only [List.mem_append, List.mem_singleton] at hx
        rcases hx with h | rfl
        · exact ho x h
        · exact hl
theorem cleanF_num (ss : List Sp) : NL (cleanF ss) = cleanN (NL ss) ∧ ∀ s ∈ cleanF ss, Norm s := by
  cases ss with
  | nil => exact ⟨rfl, fun s h => by simp [cleanF] at h⟩
  | cons s ss =>
    have := fold_go ss [] (madeS (fromB s) (toB s)) (norm_made (normB_to s))
    rw [sN_made (from_en s)] at this
    refine ⟨?_, this.2 (by simp)⟩
    show NL (ss.foldl joinS ([] ++ [madeS (fromB s) (toB s)])) = _
    rw [this.1]
    rfl
theorem goN_spec : ∀ (r : List (Nat × Nat)) (f t : Nat), f < t → (∀ p ∈ r, f ≤ p.1 ∧ p.1 < p.2) → r.Pairwise (fun a b => a.1 ≤ b.1) → Cl f (goN f t r) ∧ ∀ n, mem n (goN f t r) ↔ (f ≤ n ∧ n < t) ∨ mem n r
  | [], f, t, h, _, _ => ⟨⟨Nat.le_refl _, h, trivial⟩, fun n => by rw [goN, mem_cons]⟩
  | p :: r, f, t, h, hp, hs => by
    rw [List.pairwise_cons] at hs
    have h1 := hp p (by simp)
    rw [goN]
    by_cases hc : p.1 ≤ t
    · rw [if_pos hc]
      have ih := goN_spec r f (max t p.2) (by omega) (fun q hq => hp q (by simp [hq])) hs.2
      refine ⟨ih.1, fun n => ?_⟩
      rw [ih.2, mem_cons]
      constructor
      · rintro (h | h)
        · by_cases hn : n < t
          · exact .inl ⟨h.1, hn⟩
          · exact .inr (.inl ⟨by omega, by omega⟩)
        · exact .inr (.inr h)
      · rintro (h | h | h)
        · exact .inl ⟨h.1, by omega⟩
        · exact .inl ⟨by omega, by omega⟩
        · exact .inr h
    · rw [if_neg hc]
      have ih := goN_spec r p.1 p.2 h1.2 (fun q hq => ⟨hs.1 q hq, (hp q (by simp [hq])).2⟩) hs.2
      refine ⟨⟨Nat.le_refl _, h, ih.1.mono (by omega)⟩, fun n => ?_⟩
      rw [mem_cons, ih.2, mem_cons]
theorem cleanN_spec (r : List (Nat × Nat)) (hp : ∀ p ∈ r, p.1 < p.2) (hs : r.Pairwise (fun a b => a.1 ≤ b.1)) : Cl 0 (cleanN r) ∧ ∀ n, mem n (cleanN r) ↔ mem n r := by
  cases r with
  | nil => exact ⟨trivial, fun n => Iff.rfl⟩
  | cons p r =>
    rw [List.pairwise_cons] at hs
    have := goN_spec r p.1 p.2 (hp p (by simp)) (fun q hq => ⟨hs.1 q hq, hp q (by simp [hq])⟩) hs.2
    exact ⟨this.1.mono (Nat.zero_le _), fun n => by rw [cleanN, this.2, mem_cons]⟩

/-- what Clean answers: clean, and of the same members -/
theorem clean_spec {ss out : List Sp} (h : CleanOf ss out) : Cl 0 (NL out) ∧ (∀ s ∈ out, Norm s) ∧ ∀ n, mem n (NL out) ↔ mem n (NL ss) := by
  obtain ⟨ts, hp, hs, rfl⟩ := h
  obtain ⟨e1, e2⟩ := cleanF_num ts
  have hk : ∀ s, keepS s = true ↔ nB (fromB s) < nB (toB s) := fun s => by
    have := cmpB_lt (fromB s) (toB s)
    simp only [keepS, emptyS, Bool.not_eq_true', decide_eq_false_iff_not]
    omega
  have h1 : ∀ p ∈ NL ts, p.1 < p.2 := by
    intro p hp'
    obtain ⟨s, hs', rfl⟩ := List.mem_map.1 hp'
    exact (hk s).1 (List.mem_filter.1 (hp.mem_iff.1 hs')).2
  have h2 : (NL ts).Pairwise (fun a b => a.1 ≤ b.1) := by
    rw [NL, List.pairwise_map, List.pairwise_iff_getElem]
    intro i j hi hj hij
    have := hs i j hij hj
    have h3 : ¬ cmpK ts[j].fr ts[i].fr < 0 := by simpa [ltF, ltK] using this
    rw [cmpN_lt] at h3
    show nK _ ≤ nK _
    exact Nat.not_lt.1 h3
  have := cleanN_spec (NL ts) h1 h2
  rw [e1]
  refine ⟨this.1, e2, fun n => ?_⟩
  rw [this.2]
  constructor
  · rintro ⟨p, hp', hn⟩
    obtain ⟨s, hs', rfl⟩ := List.mem_map.1 hp'
    exact ⟨_, List.mem_map.2 ⟨s, (List.mem_filter.1 (hp.mem_iff.1 hs')).1, rfl⟩, hn⟩
  · rintro ⟨p, hp', hn⟩
    obtain ⟨s, hs', rfl⟩ := List.mem_map.1 hp'
    refine ⟨_, List.mem_map.2 ⟨s, hp.mem_iff.2 (List.mem_filter.2 ⟨hs', (hk s).2 ?_⟩), rfl⟩, hn⟩
    have h4 : nB (fromB s) ≤ n ∧ n < nB (toB s) := hn
    omega
/-- two clean rows of the same members are one -/
theorem same_members {a b : List Sp} (ha : Cl 0 (NL a)) (hb : Cl 0 (NL b)) (na : ∀ s ∈ a, Norm s) (nb : ∀ s ∈ b, Norm s) (h : ∀ n, mem n (NL a) ↔ mem n (NL b)) : a = b :=
  NL_inj na nb (Cl.unique ha hb h)
end Go.Proofs.Ytfeomnkgkppdlaa
