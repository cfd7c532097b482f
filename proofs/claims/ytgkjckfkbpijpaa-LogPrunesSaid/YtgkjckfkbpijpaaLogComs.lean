/- The commits that a statement of this seat is given, and the log that its first loop makes of them. -/
import Derived.Test.YtgkjckfkbpijpaaLogShown
set_option linter.unusedVariables false
set_option linter.unusedSimpArgs false
namespace Go.Proofs.Ytgkjckfkbpijpaa
open Go Go.RowKit Go.Sort Go.Lib

/-- one list of keys, as a cell holds it -/
structure KeysV (w : World) (v : Value) (ks : List Key) : Prop where
  shape : ∃ a c, v = .slice a ks.length c ∧ ks.length ≤ c ∧ (0 < ks.length → ∃ b o, a = some ⟨b, o, none⟩ ∧ KeysAt w b o ks)
/-- a slice of lists of keys -/
structure ComsIn (w : World) (b off : Nat) (vs : List Value) (kss : List (List Key)) : Prop where
  len : vs.length = kss.length
  cell : ∀ i (h : i < vs.length), w.cell? ⟨b, off + i, none⟩ = some vs[i]
  keys : ∀ i (h : i < vs.length) (h' : i < kss.length), KeysV w vs[i] kss[i]

theorem KeysV.cut {w : World} {v : Value} {ks : List Key} (h : KeysV w v ks) (n : Nat) : ∃ a c, v = .slice a ks.length c ∧ ks.length ≤ c ∧ KeysIn w (.slice a (min ks.length n) c) (ks.take n) := by
  obtain ⟨a, c, rfl, hc, hk⟩ := h.shape
  have hl : (ks.take n).length = min ks.length n := by rw [List.length_take, Nat.min_comm]
  refine ⟨a, c, rfl, hc, a, c, by rw [hl], fun hp => ?_⟩
  obtain ⟨b, o, e, hr⟩ := hk (by omega)
  exact ⟨b, o, e, RowAt.take (enc := keyCells) (k := K24) hr n⟩

/-- what the loop has made of the first k lists: the numbers from 1 on, each list's first twenty keys -/
def Made (cs : List Cm) (kss : List (List Key)) (k : Nat) : Prop := cs.length = k ∧ k ≤ kss.length ∧ ∀ j (h : j < cs.length) (h' : j < kss.length), cs[j].num = (j : Int) + 1 ∧ cs[j].ks.Perm (kss[j].take 20)
theorem Made.nil (kss : List (List Key)) : Made [] kss 0 := ⟨rfl, Nat.zero_le _, fun j h => absurd h (by simp)⟩
theorem Made.snoc {cs : List Cm} {kss : List (List Key)} {k : Nat} (h : Made cs kss k) (hk : k < kss.length) {sl : Value} {ks' : List Key} (hp : ks'.Perm (kss[k].take 20)) : Made (cs ++ [⟨(k : Int) + 1, sl, ks'⟩]) kss (k + 1) := by
  refine ⟨by simp [h.1], by omega, fun j hj hj' => ?_⟩
  by_cases e : j < cs.length
  · rw [List.getElem_append_left e]; exact h.2.2 j e hj'
  · have e2 : j = k := by have := h.1; simp at hj; omega
    subst e2
    rw [List.getElem_append_right (by omega)]
    simp only [h.1, Nat.sub_self, List.getElem_cons_zero]
    exact ⟨by first | rfl | trivial, hp⟩
theorem Made.grows {cs : List Cm} {kss : List (List Key)} {k : Nat} (h : Made cs kss k) : Grows cs := fun i j hij hj => by
  have a := (h.2.2 i (by omega) (by have := h.1; have := h.2.1; omega)).1
  have b := (h.2.2 j hj (by have := h.1; have := h.2.1; omega)).1
  rw [a, b]; omega
theorem Made.short {cs : List Cm} {kss : List (List Key)} {k : Nat} (h : Made cs kss k) : ∀ c ∈ cs, c.ks.length ≤ 20 := fun c hc => by
  obtain ⟨j, hj, rfl⟩ := List.getElem_of_mem hc
  have := (h.2.2 j hj (by have := h.1; have := h.2.1; omega)).2.length_eq
  rw [this, List.length_take]; omega
theorem hit_perm {a b : List Key} (h : a.Perm b) (s : Sp) : hit a s = hit b s := by
  unfold hit; exact h.any_eq
/-- a conflict, told of the lists that were given -/
def cause (kss : List (List Key)) (since n : Nat) (ss : List Sp) : Bool := ((kss.take n).drop since).any fun ks => ss.any fun s => hit (ks.take 20) s
theorem Made.conf {cs : List Cm} {kss : List (List Key)} {k : Nat} (h : Made cs kss k) (since : Nat) (ss : List Sp) : conf cs (since : Int) ss = cause kss since k ss := by
  unfold Go.Proofs.Ytgkjckfkbpijpaa.conf cause
  rw [Bool.eq_iff_iff, List.any_eq_true, List.any_eq_true]
  have hl : (kss.take k).length = k := by rw [List.length_take]; have := h.2.1; omega
  constructor
  · rintro ⟨c, hc, ht⟩
    obtain ⟨j, hj, rfl⟩ := List.getElem_of_mem hc
    have hj' : j < kss.length := by have := h.1; have := h.2.1; omega
    obtain ⟨h1, h2⟩ := h.2.2 j hj hj'
    rw [Bool.and_eq_true, decide_eq_true_iff, h1] at ht
    refine ⟨kss[j], ?_, ?_⟩
    · rw [List.mem_iff_getElem]
      refine ⟨j - since, by rw [List.length_drop, hl]; have := h.1; omega, ?_⟩
      rw [List.getElem_drop, List.getElem_take]
      congr 1; omega
    · rw [← ht.2]
      congr 1; funext s
      exact (hit_perm h2 s).symm
  · rintro ⟨ks, hks, ht⟩
    rw [List.mem_iff_getElem] at hks
    obtain ⟨i, hi, rfl⟩ := hks
    rw [List.length_drop, hl] at hi
    rw [List.getElem_drop, List.getElem_take] at ht
    have hj : since + i < cs.length := by have := h.1; omega
    have hj' : since + i < kss.length := by have := h.2.1; omega
    obtain ⟨h1, h2⟩ := h.2.2 (since + i) hj hj'
    refine ⟨cs[since + i], List.getElem_mem hj, ?_⟩
    rw [Bool.and_eq_true, decide_eq_true_iff, h1]
    refine ⟨by omega, ?_⟩
    rw [← ht]
    congr 1; funext s
    exact hit_perm h2 s

/-- the log at block p holds the first k lists -/
def LogMade (w : World) (p : Nat) (kss : List (List Key)) (k : Nat) : Prop := ∃ cs v, LogAt w p p v cs (k : Int) 0 ∧ Made cs kss k
theorem LogMade.lt {w : World} {p : Nat} {kss : List (List Key)} {k : Nat} (h : LogMade w p kss k) : p < w.heap.size := by
  obtain ⟨cs, v, h, _⟩ := h; exact h.lt
theorem LogMade.kept {w w' : World} {p : Nat} {kss : List (List Key)} {k : Nat} (h : LogMade w p kss k) (X : Chg (fun _ => False) w w') : LogMade w' p kss k := by
  obtain ⟨cs, v, h, m⟩ := h; exact ⟨cs, v, h.kept X (fun _ _ h => h), m⟩
theorem LogMade.ext {w w' : World} {p : Nat} {kss : List (List Key)} {k : Nat} (h : LogMade w p kss k) (X : Ext w w') : LogMade w' p kss k := h.kept (X.chg _)

theorem new_made (w : World) (kss : List (List Key)) : Calls Try.prog 8 #[.int .i64 0] w fun e w' => e = .returned (.pointer (some ⟨w.heap.size, 0, none⟩)) ∧ Ext w w' ∧ LogMade w' w.heap.size kss 0 :=
  (new_any 0 w).mono fun _ _ ⟨he, hx, hl⟩ => ⟨he, hx, [], _, hl, Made.nil kss⟩

theorem add_made {w : World} {p : Nat} {kss : List (List Key)} {i : Nat} {sl : Value} (h : LogMade w p kss i) (hi : i < kss.length) (hi2 : i < 30) (hk : KeysIn w sl (kss[i].take 20)) :
    Calls Try.prog 9 #[.pointer (some ⟨p, 0, none⟩), .int .i64 ((i : Int) + 1), sl] w fun e w' => e = .returned (.int .i64 0) ∧ LogMade w' p kss (i + 1) ∧ Chg (fun j => p ≤ j) w w' := by
  obtain ⟨cs, v, hl, hm⟩ := h
  have ht : (kss[i].take 20).length ≤ 20 := by rw [List.length_take]; omega
  refine (add_ok w p p v cs i 0 ((i : Int) + 1) sl (kss[i].take 20) hl (by omega) hk (by omega) (by rw [hm.1]; omega)).mono ?_
  rintro e w' ⟨rfl, v', sl', ks', hp, hl', hx, _⟩
  refine ⟨rfl, ⟨_, v', hl', hm.snoc hi hp⟩, hx.mono ?_⟩
  rintro j hj (rfl | h)
  · exact Nat.le_refl _
  · exact (hl.own.lt j h).1

theorem conf_made {w : World} {p : Nat} {kss : List (List Key)} {k since : Nat} {sv : Value} {ss : List Sp} (h : LogMade w p kss k) (hs : since ≤ k) (hsp : SpansIn w sv ss) (hss : ss.length ≤ 4611686018427387904) :
    Calls Try.prog 11 #[.pointer (some ⟨p, 0, none⟩), .int .i64 since, sv] w fun e w' => e = .returned (.tuple #[.bool (cause kss since k ss), .int .i64 0]) ∧ Ext w w' := by
  obtain ⟨cs, v, hl, hm⟩ := h
  have := conf_ok w p p v cs k 0 since sv ss hl (by omega) (by omega) hm.grows hsp hss (fun c hc => by have := hm.short c hc; omega)
  rw [hm.conf] at this
  exact this
end Go.Proofs.Ytgkjckfkbpijpaa
