/- What the reference's where answers, told by members. -/
import Derived.Test.YtfeomnkgkppdlaaTlWhere
set_option linter.unusedVariables false
set_option linter.unusedSimpArgs false
namespace Go.Proofs.Ytfeomnkgkppdlaa
open Go Go.RowKit Go.Sort Go.Lib
def Rise (xs : List Bd) : Prop := xs.Pairwise (fun a b => nB a < nB b)
theorem insB_cons (x : Bd) (r : List Bd) (s : Bd) : insB (x :: r) s = if nB x < nB s then x :: insB r s else if nB x = nB s then x :: r else s :: x :: r := rfl
theorem insB_mem : ∀ (xs : List Bd) (s c : Bd), c ∈ insB xs s → c ∈ xs ∨ c = s
  | [], s, c, h => by
    have h : c ∈ [s] := h
    exact .inr (List.mem_singleton.1 h)
  | x :: r, s, c, h => by
    rw [insB_cons] at h
    split at h
    · rcases List.mem_cons.1 h with h | h
      · exact .inl (by simp [h])
      · rcases insB_mem r s c h with h | h
        · exact .inl (by simp [h])
        · exact .inr h
    · split at h
      · exact .inl h
      · rcases List.mem_cons.1 h with h | h
        · exact .inr h
        · exact .inl h
theorem insB_rise : ∀ (xs : List Bd) (s : Bd), Rise xs → Rise (insB xs s)
  | [], s, _ => by show List.Pairwise _ [s]; simp
  | x :: r, s, h => by
    have h : List.Pairwise (fun a b => nB a < nB b) (x :: r) := h
    obtain ⟨h1, h2⟩ := List.pairwise_cons.1 h
    rw [insB_cons]
    unfold Rise
    split
    · rename_i hlt
      refine List.pairwise_cons.2 ⟨fun c hc => ?_, insB_rise r s h2⟩
      rcases insB_mem r s c hc with hc | rfl
      · exact h1 c hc
      · exact hlt
    · split
      · exact h
      · refine List.pairwise_cons.2 ⟨fun c hc => ?_, h⟩
        rcases List.mem_cons.1 hc with rfl | hc
        · omega
        · have := h1 c hc; omega
theorem insB_num : ∀ (xs : List Bd) (s : Bd) (n : Nat), n ∈ (insB xs s).map nB ↔ n ∈ xs.map nB ∨ n = nB s
  | [], s, n => by show n ∈ [nB s] ↔ _; simp
  | x :: r, s, n => by
    have ih := insB_num r s n
    rw [insB_cons]
    split
    · rw [List.map_cons, List.mem_cons, ih, List.map_cons, List.mem_cons, or_assoc]
    · split
      · rename_i e
        rw [List.map_cons, List.mem_cons, e]
        constructor
        · exact fun h => .inl h
        · rintro (h | h)
          · exact h
          · exact .inl h
      · rw [List.map_cons, List.mem_cons]
        exact ⟨fun h => h.elim .inr .inl, fun h => h.elim .inr .inl⟩
theorem addB_rise {out : List Bd} (s : Sp) (h : Rise out) (hn : ∀ c ∈ out, NormB c) : Rise (addB out s) ∧ ∀ c ∈ addB out s, NormB c := by
  unfold addB
  split
  · refine ⟨insB_rise _ _ (insB_rise _ _ h), fun c hc => ?_⟩
    rcases insB_mem _ _ _ hc with hc | rfl
    · rcases insB_mem _ _ _ hc with hc | rfl
      · exact hn c hc
      · exact fun e => by cases e
    · exact normB_to s
  · exact ⟨h, hn⟩
theorem fold_rise : ∀ (ss : List Sp) (out : List Bd), Rise out → (∀ c ∈ out, NormB c) → Rise (ss.foldl addB out) ∧ ∀ c ∈ ss.foldl addB out, NormB c
  | [], out, h, hn => ⟨h, hn⟩
  | s :: ss, out, h, hn => fold_rise ss _ (addB_rise s h hn).1 (addB_rise s h hn).2
theorem addB_num (out : List Bd) (s : Sp) (n : Nat) : n ∈ (addB out s).map nB ↔ n ∈ out.map nB ∨ ((sN s).1 < (sN s).2 ∧ (n = (sN s).1 ∨ n = (sN s).2)) := by
  have e1 : (sN s).1 = nB (fromB s) := rfl
  have e2 : (sN s).2 = nB (toB s) := rfl
  rw [e1, e2]
  unfold addB
  split
  · rename_i h
    rw [insB_num, insB_num]
    simp only [h, true_and, or_assoc]
  · rename_i h
    simp only [h, false_and, or_false]
theorem fold_num : ∀ (ss : List Sp) (out : List Bd) (n : Nat), n ∈ (ss.foldl addB out).map nB ↔ n ∈ out.map nB ∨ ∃ s ∈ ss, (sN s).1 < (sN s).2 ∧ (n = (sN s).1 ∨ n = (sN s).2)
  | [], out, n => by simp
  | s :: ss, out, n => by
    rw [List.foldl_cons, fold_num ss, addB_num]
    constructor
    · rintro ((h | h) | ⟨s', h1, h2⟩)
      · exact .inl h
      · exact .inr ⟨s, by simp, h⟩
      · exact .inr ⟨s', by simp [h1], h2⟩
    · rintro (h | ⟨s', h1, h2⟩)
      · exact .inl (.inl h)
      · rcases List.mem_cons.1 h1 with rfl | h1
        · exact .inl (.inr h2)
        · exact .inr ⟨s', h1, h2⟩
theorem bds_rise (ss : List Sp) : Rise (bdsL ss) ∧ ∀ c ∈ bdsL ss, NormB c := fold_rise ss [] List.Pairwise.nil (fun c h => by cases h)
theorem bds_num (ss : List Sp) (n : Nat) : n ∈ (bdsL ss).map nB ↔ ∃ s ∈ ss, (sN s).1 < (sN s).2 ∧ (n = (sN s).1 ∨ n = (sN s).2) := by
  unfold bdsL
  rw [fold_num]
  simp
theorem rise_lt {xs : List Bd} (h : Rise xs) {i j : Nat} (hij : i < j) (hj : j < xs.length) : nB (xs[i]'(by omega)) < nB xs[j] := List.pairwise_iff_getElem.1 h i j (by omega) hj hij
theorem rise_le {xs : List Bd} (h : Rise xs) {i j : Nat} (hij : i ≤ j) (hj : j < xs.length) : nB (xs[i]'(by omega)) ≤ nB xs[j] := by
  rcases Nat.lt_or_eq_of_le hij with h' | rfl
  · exact Nat.le_of_lt (rise_lt h h' hj)
  · exact Nat.le_refl _
theorem rise_en {xs : List Bd} (h : Rise xs) (i : Nat) (hi : i < xs.length) (hi1 : i + 1 < xs.length) : xs[i].en = false := by
  have h1 := rise_lt h (show i < i + 1 by omega) hi1
  have h2 := nB_le xs[i + 1]
  cases e : xs[i].en with
  | false => rfl
  | true =>
    have : nB xs[i] = 256 ^ 24 := by unfold nB; rw [if_pos e]
    omega
theorem between {xs : List Bd} (h : Rise xs) {i n : Nat} (hi : i + 1 < xs.length) (hn : n ∈ xs.map nB) (hlt : n < nB xs[i + 1]) : n ≤ nB (xs[i]'(by omega)) := by
  obtain ⟨c, hc, rfl⟩ := List.mem_map.1 hn
  obtain ⟨j, hj, rfl⟩ := List.getElem_of_mem hc
  by_cases hji : j ≤ i
  · exact rise_le h hji (by omega)
  · have := rise_le h (show i + 1 ≤ j by omega) hj; omega
theorem between' {xs : List Bd} (h : Rise xs) {i n : Nat} (hi : i + 1 < xs.length) (hn : n ∈ xs.map nB) (hlt : nB (xs[i]'(by omega)) < n) : nB xs[i + 1] ≤ n := by
  by_cases h' : n < nB xs[i + 1]
  · have := between h hi hn h'; omega
  · omega
/-- the bounds of l's spans are among the cuts -/
def Cut (cuts : List Bd) (l : List Sp) : Prop := ∀ s ∈ l, (sN s).1 < (sN s).2 → (sN s).1 ∈ cuts.map nB ∧ (sN s).2 ∈ cuts.map nB
theorem cut_bds {l ss : List Sp} (h : ∀ s ∈ l, s ∈ ss) : Cut (bdsL ss) l := fun s hs hp => ⟨(bds_num ss _).2 ⟨s, h s hs, hp, .inl rfl⟩, (bds_num ss _).2 ⟨s, h s hs, hp, .inr rfl⟩⟩
theorem mem_span {n : Nat} {l : List Sp} : mem n (NL l) ↔ ∃ s ∈ l, (sN s).1 ≤ n ∧ n < (sN s).2 := by
  unfold mem NL
  constructor
  · rintro ⟨p, hp, h⟩
    obtain ⟨s, hs, rfl⟩ := List.mem_map.1 hp
    exact ⟨s, hs, h⟩
  · rintro ⟨s, hs, h⟩
    exact ⟨_, List.mem_map.2 ⟨s, hs, rfl⟩, h⟩
theorem mem_const {cuts : List Bd} {l : List Sp} (hr : Rise cuts) (hc : Cut cuts l) (i : Nat) (hi : i + 1 < cuts.length) (n : Nat) (h1 : nB (cuts[i]'(by omega)) ≤ n) (h2 : n < nB cuts[i + 1]) : mem n (NL l) ↔ mem (nB (cuts[i]'(by omega))) (NL l) := by
  rw [mem_span, mem_span]
  constructor
  · rintro ⟨s, hs, a, b⟩
    obtain ⟨c1, c2⟩ := hc s hs (by omega)
    exact ⟨s, hs, between hr hi c1 (by omega), by omega⟩
  · rintro ⟨s, hs, a, b⟩
    obtain ⟨c1, c2⟩ := hc s hs (by omega)
    have := between' hr hi c2 b
    exact ⟨s, hs, by omega, by omega⟩
theorem mem_low {cuts : List Bd} {l : List Sp} (hr : Rise cuts) (hc : Cut cuts l) (h0 : 0 < cuts.length) (n : Nat) (h : n < nB cuts[0]) : ¬ mem n (NL l) := by
  rw [mem_span]
  rintro ⟨s, hs, a, b⟩
  obtain ⟨c1, _⟩ := hc s hs (by omega)
  obtain ⟨c, hc, e⟩ := List.mem_map.1 c1
  obtain ⟨j, hj, rfl⟩ := List.getElem_of_mem hc
  have := rise_le hr (Nat.zero_le j) hj
  omega
theorem mem_high {cuts : List Bd} {l : List Sp} (hr : Rise cuts) (hc : Cut cuts l) (h0 : cuts.length - 1 < cuts.length) (n : Nat) (h : nB cuts[cuts.length - 1] ≤ n) : ¬ mem n (NL l) := by
  rw [mem_span]
  rintro ⟨s, hs, a, b⟩
  obtain ⟨_, c1⟩ := hc s hs (by omega)
  obtain ⟨c, hc, e⟩ := List.mem_map.1 c1
  obtain ⟨j, hj, rfl⟩ := List.getElem_of_mem hc
  have := rise_le hr (show j ≤ cuts.length - 1 by omega) (by omega)
  omega
theorem mem_none {cuts : List Bd} {l : List Sp} (hc : Cut cuts l) (h0 : cuts.length = 0) (n : Nat) : ¬ mem n (NL l) := by
  rw [mem_span]
  rintro ⟨s, hs, a, b⟩
  obtain ⟨c1, _⟩ := hc s hs (by omega)
  rw [List.eq_nil_of_length_eq_zero h0] at c1
  cases c1
theorem cl_snoc : ∀ (L : List (Nat × Nat)) (lo x y : Nat), Cl lo (L ++ [(x, y)]) ↔ Cl lo L ∧ (∀ p ∈ L, p.2 < x) ∧ lo ≤ x ∧ x < y
  | [], lo, x, y => by
    show (lo ≤ x ∧ x < y ∧ True) ↔ True ∧ _ ∧ _
    simp
  | p :: L, lo, x, y => by
    have ih := cl_snoc L (p.2 + 1) x y
    show (lo ≤ p.1 ∧ p.1 < p.2 ∧ Cl (p.2 + 1) (L ++ [(x, y)])) ↔ (lo ≤ p.1 ∧ p.1 < p.2 ∧ Cl (p.2 + 1) L) ∧ _
    rw [ih]
    constructor
    · rintro ⟨h1, h2, h3, h4, h5, h6⟩
      refine ⟨⟨h1, h2, h3⟩, fun q hq => ?_, by omega, h6⟩
      rcases List.mem_cons.1 hq with rfl | hq
      · omega
      · exact h4 q hq
    · rintro ⟨⟨h1, h2, h3⟩, h4, h5, h6⟩
      have := h4 p (by simp)
      exact ⟨h1, h2, h3, fun q hq => h4 q (by simp [hq]), by omega, h6⟩
theorem mem_snoc (n x y : Nat) (L : List (Nat × Nat)) : mem n (L ++ [(x, y)]) ↔ mem n L ∨ (x ≤ n ∧ n < y) := by
  rw [mem_append, mem_cons]
  constructor
  · rintro (h | h | h)
    · exact .inl h
    · exact .inr h
    · exact (mem_nil _ h).elim
  · rintro (h | h)
    · exact .inl h
    · exact .inr (.inl h)
/-- what where has put together up to a cut -/
structure Upto (M : Nat → Prop) (x : Nat) (out : List Sp) : Prop where
  cl : Cl 0 (NL out)
  norm : ∀ s ∈ out, Norm s
  told : ∀ n, mem n (NL out) ↔ n < x ∧ M n
  ends : ∀ s ∈ out, (sN s).2 ≤ x
theorem NL_snoc (out : List Sp) (s : Sp) : NL (out ++ [s]) = NL out ++ [((sN s).1, (sN s).2)] := by simp [NL]
theorem upto_app {M : Nat → Prop} {c d : Bd} {out : List Sp} (h : Upto M (nB c) out) (hen : c.en = false) (hd : NormB d) (hlt : nB c < nB d) (hM : ∀ n, nB c ≤ n → n < nB d → M n) (hl : ∀ s ∈ out, (sN s).2 < nB c) : Upto M (nB d) (out ++ [madeS ⟨c.key, false⟩ d]) := by
  have ec : (⟨c.key, false⟩ : Bd) = c := by cases c; simp only at hen; rw [hen]
  have es : sN (madeS c d) = (nB c, nB d) := sN_made hen
  rw [ec]
  refine ⟨?_, fun s hs => ?_, fun n => ?_, fun s hs => ?_⟩
  · rw [NL_snoc, es]
    refine (cl_snoc _ _ _ _).2 ⟨h.cl, fun p hp => ?_, Nat.zero_le _, hlt⟩
    obtain ⟨s, hs, rfl⟩ := List.mem_map.1 hp
    exact hl s hs
  · rcases List.mem_append.1 hs with hs | hs
    · exact h.norm s hs
    · rw [List.mem_singleton.1 hs]; exact norm_made hd
  · rw [NL_snoc, es, mem_snoc, h.told]
    constructor
    · rintro (⟨a, b⟩ | ⟨a, b⟩)
      · exact ⟨by omega, b⟩
      · exact ⟨b, hM n a b⟩
    · rintro ⟨a, b⟩
      by_cases hn : n < nB c
      · exact .inl ⟨hn, b⟩
      · exact .inr ⟨by omega, a⟩
  · rcases List.mem_append.1 hs with hs | hs
    · have := h.ends s hs; omega
    · rw [List.mem_singleton.1 hs, es]; exact Nat.le_refl _
theorem upto_set {M : Nat → Prop} {c d : Bd} {out : List Sp} {l : Sp} (h : Upto M (nB c) (out ++ [l])) (he : (sN l).2 = nB c) (hd : NormB d) (hlt : nB c < nB d) (hM : ∀ n, nB c ≤ n → n < nB d → M n) : Upto M (nB d) (out ++ [madeS ⟨l.fr, false⟩ d]) := by
  have es : sN (madeS ⟨l.fr, false⟩ d) = ((sN l).1, nB d) := sN_made rfl
  have hc := h.cl
  rw [NL_snoc] at hc
  obtain ⟨c1, c2, c3, c4⟩ := (cl_snoc _ _ _ _).1 hc
  refine ⟨?_, fun s hs => ?_, fun n => ?_, fun s hs => ?_⟩
  · rw [NL_snoc, es]
    exact (cl_snoc _ _ _ _).2 ⟨c1, c2, c3, by omega⟩
  · rcases List.mem_append.1 hs with hs | hs
    · exact h.norm s (by simp [hs])
    · rw [List.mem_singleton.1 hs]; exact norm_made hd
  · have ht := h.told n
    rw [NL_snoc, mem_snoc, he] at ht
    rw [NL_snoc, es, mem_snoc]
    constructor
    · rintro (a | ⟨a, b⟩)
      · have := ht.1 (.inl a); exact ⟨by omega, this.2⟩
      · by_cases hn : n < nB c
        · exact ⟨b, (ht.1 (.inr ⟨a, hn⟩)).2⟩
        · exact ⟨b, hM n (by omega) b⟩
    · rintro ⟨a, b⟩
      by_cases hn : n < nB c
      · rcases ht.2 ⟨hn, b⟩ with h' | h'
        · exact .inl h'
        · exact .inr ⟨h'.1, by omega⟩
      · exact .inr ⟨by have : (sN l).1 < nB c := by omega
                       show (sN l).1 ≤ n
                       omega, a⟩
  · rcases List.mem_append.1 hs with hs | hs
    · have := h.ends s (by simp [hs]); omega
    · rw [List.mem_singleton.1 hs, es]; exact Nat.le_refl _
theorem upto_S {M : Nat → Prop} {c d : Bd} {out : List Sp} (h : Upto M (nB c) out) (hen : c.en = false) (hd : NormB d) (hlt : nB c < nB d) (hM : ∀ n, nB c ≤ n → n < nB d → M n) : Upto M (nB d) (whS out c d) := by
  by_cases h0 : 0 < out.length
  · obtain ⟨m, hm⟩ : ∃ m, out.length = m + 1 := ⟨out.length - 1, by omega⟩
    have eo : out = out.take m ++ [out[m]'(by omega)] := by
      have := List.take_succ_eq_append_getElem (show m < out.length by omega)
      rw [← this, List.take_of_length_le (by omega)]
    by_cases he : nB (toB (out[m]'(by omega))) = nB c
    · rw [whS_set hm he]
      have e2 : out.set m (madeS ⟨(out[m]'(by omega)).fr, false⟩ d) = out.take m ++ [madeS ⟨(out[m]'(by omega)).fr, false⟩ d] := by
        rw [List.set_eq_take_append_cons_drop, if_pos (by omega), List.drop_of_length_le (by omega)]
      rw [e2]
      exact upto_set (by rw [← eo]; exact h) he hd hlt hM
    · rw [whS_app hm he]
      refine upto_app h hen hd hlt hM (fun s hs => ?_)
      have hc := h.cl
      rw [eo, NL_snoc] at hc
      obtain ⟨c1, c2, c3, c4⟩ := (cl_snoc _ _ _ _).1 hc
      have hl := h.ends (out[m]'(by omega)) (List.getElem_mem _)
      have el : (sN (out[m]'(by omega))).2 = nB (toB (out[m]'(by omega))) := rfl
      rw [eo] at hs
      rcases List.mem_append.1 hs with hs | hs
      · have := c2 (sN s) (List.mem_map.2 ⟨s, hs, rfl⟩); omega
      · rw [List.mem_singleton.1 hs]; omega
  · rw [whS_nil h0]
    have e0 : out = [] := List.eq_nil_of_length_eq_zero (by omega)
    exact upto_app h hen hd hlt hM (fun s hs => by rw [e0] at hs; cases hs)
theorem whL_spec {cuts : List Bd} {ins : List Bool} {M : Nat → Prop} (hr : Rise cuts) (hN : ∀ c ∈ cuts, NormB c) (hin : ∀ i (hi : i + 1 < cuts.length), (ins[i]?.getD false = true ↔ M (nB (cuts[i]'(by omega)))))
    (hc : ∀ i (hi : i + 1 < cuts.length) n, nB (cuts[i]'(by omega)) ≤ n → n < nB cuts[i + 1] → (M n ↔ M (nB (cuts[i]'(by omega))))) (hlow : ∀ (h0 : 0 < cuts.length) n, n < nB cuts[0] → ¬ M n) :
    ∀ t (ht : t < cuts.length), Upto M (nB cuts[t]) (whL cuts ins t)
  | 0, ht => ⟨trivial, fun s hs => (by cases hs), fun n => ⟨fun h => (mem_nil _ h).elim, fun h => (hlow ht n h.1 h.2).elim⟩, fun s hs => by cases hs⟩
  | t + 1, ht => by
    have ih := whL_spec hr hN hin hc hlow t (by omega)
    have hlt := rise_lt hr (show t < t + 1 by omega) ht
    rw [whL, getD_at (show t < cuts.length by omega), getD_at ht]
    have i1 := hin t ht
    by_cases hb : ins[t]?.getD false = true
    · rw [if_pos hb]
      exact upto_S ih (rise_en hr t (by omega) ht) (hN _ (List.getElem_mem _)) hlt (fun n a b => (hc t ht n a b).2 (i1.1 hb))
    · rw [if_neg hb]
      have hM : ¬ M (nB cuts[t]) := fun h => hb (i1.2 h)
      refine ⟨ih.cl, ih.norm, fun n => ?_, fun s hs => by have := ih.ends s hs; omega⟩
      rw [ih.told]
      constructor
      · exact fun h => ⟨by omega, h.2⟩
      · rintro ⟨a, b⟩
        by_cases hn : n < nB cuts[t]
        · exact ⟨hn, b⟩
        · exact (hM ((hc t ht n (by omega) a).1 b)).elim
def insL (cuts : List Bd) (f : Key → Bool) (t : Nat) : List Bool := (List.range t).map fun i => f (cuts[i]?.getD zeroBd).key
theorem insL_len (cuts : List Bd) (f : Key → Bool) (t : Nat) : (insL cuts f t).length = t := by simp [insL]
theorem insL_next (cuts : List Bd) (f : Key → Bool) (t : Nat) (ht : t < cuts.length) : insL cuts f (t + 1) = insL cuts f t ++ [f cuts[t].key] := by
  unfold insL
  rw [List.range_succ, List.map_append, List.map_cons, List.map_nil, getD_at ht]
def refL (f : Key → Bool) (cuts : List Bd) : List Sp := whL cuts (insL cuts f (cuts.length - 1)) (cuts.length - 1)
theorem refL_tells {f : Key → Bool} {cuts : List Bd} {M : Nat → Prop} (hr : Rise cuts) (hN : ∀ c ∈ cuts, NormB c) (hf : ∀ k, f k = true ↔ M (nK k))
    (hc : ∀ i (hi : i + 1 < cuts.length) n, nB (cuts[i]'(by omega)) ≤ n → n < nB cuts[i + 1] → (M n ↔ M (nB (cuts[i]'(by omega))))) (hlow : ∀ (h0 : 0 < cuts.length) n, n < nB cuts[0] → ¬ M n)
    (hhigh : ∀ (h0 : cuts.length - 1 < cuts.length) n, nB cuts[cuts.length - 1] ≤ n → ¬ M n) (hno : cuts.length = 0 → ∀ n, ¬ M n) : Tells (refL f cuts) M := by
  unfold refL
  by_cases h0 : 0 < cuts.length
  · have hin : ∀ i (hi : i + 1 < cuts.length), ((insL cuts f (cuts.length - 1))[i]?.getD false = true ↔ M (nB (cuts[i]'(by omega)))) := fun i hi => by
      rw [getD_at (by rw [insL_len]; omega)]
      have e : (insL cuts f (cuts.length - 1))[i]'(by rw [insL_len]; omega) = f (cuts[i]'(by omega)).key := by
        unfold insL
        rw [List.getElem_map, List.getElem_range, getD_at (by omega)]
      rw [e, hf]
      have : nB (cuts[i]'(by omega)) = nK (cuts[i]'(by omega)).key := by unfold nB; rw [rise_en hr i (by omega) hi]; rfl
      rw [this]
    have U := whL_spec hr hN hin hc hlow (cuts.length - 1) (by omega)
    refine ⟨U.cl, U.norm, fun n => ?_⟩
    rw [U.told]
    refine ⟨fun h => h.2, fun h => ⟨?_, h⟩⟩
    by_cases hn : n < nB (cuts[cuts.length - 1]'(by omega))
    · exact hn
    · exact (hhigh (by omega) n (by omega) h).elim
  · have e : cuts.length - 1 = 0 := by omega
    rw [e]
    exact ⟨trivial, fun s hs => (by cases hs), fun n => ⟨fun h => (mem_nil _ h).elim, fun h => (hno (by omega) n h).elim⟩⟩
theorem ref_clean (l : List Sp) : Tells (refL (fun k => hasL k l) (bdsL l)) (fun n => mem n (NL l)) := by
  obtain ⟨hr, hN⟩ := bds_rise l
  have hc : Cut (bdsL l) l := cut_bds (fun s h => h)
  exact refL_tells hr hN (fun k => hasL_iff k l) (fun i hi n => mem_const hr hc i hi n) (fun h0 n => mem_low hr hc h0 n) (fun h0 n => mem_high hr hc h0 n) (fun h0 n => mem_none hc h0 n)
theorem ref_both (a b : List Sp) : Tells (refL (fun k => hasL k a && hasL k b) (bdsL (a ++ b))) (fun n => mem n (NL a) ∧ mem n (NL b)) := by
  obtain ⟨hr, hN⟩ := bds_rise (a ++ b)
  have ha : Cut (bdsL (a ++ b)) a := cut_bds (fun s h => by simp [h])
  have hb : Cut (bdsL (a ++ b)) b := cut_bds (fun s h => by simp [h])
  exact refL_tells hr hN (fun k => by rw [Bool.and_eq_true, hasL_iff, hasL_iff]) (fun i hi n h1 h2 => and_congr (mem_const hr ha i hi n h1 h2) (mem_const hr hb i hi n h1 h2)) (fun h0 n h1 h2 => mem_low hr ha h0 n h1 h2.1) (fun h0 n h1 h2 => mem_high hr ha h0 n h1 h2.1) (fun h0 n h2 => mem_none ha h0 n h2.1)
theorem ref_less (a b : List Sp) : Tells (refL (fun k => hasL k a && !hasL k b) (bdsL (a ++ b))) (fun n => mem n (NL a) ∧ ¬ mem n (NL b)) := by
  obtain ⟨hr, hN⟩ := bds_rise (a ++ b)
  have ha : Cut (bdsL (a ++ b)) a := cut_bds (fun s h => by simp [h])
  have hb : Cut (bdsL (a ++ b)) b := cut_bds (fun s h => by simp [h])
  exact refL_tells hr hN (fun k => by rw [Bool.and_eq_true, Bool.not_eq_true', ← Bool.not_eq_true, hasL_iff, hasL_iff]) (fun i hi n h1 h2 => and_congr (mem_const hr ha i hi n h1 h2) (not_congr (mem_const hr hb i hi n h1 h2))) (fun h0 n h1 h2 => mem_low hr ha h0 n h1 h2.1) (fun h0 n h1 h2 => mem_high hr ha h0 n h1 h2.1) (fun h0 n h2 => mem_none ha h0 n h2.1)
end Go.Proofs.Ytfeomnkgkppdlaa
