/- Write by its contract. -/
import Derived.Test.YtedcpmkfanlicaaDvFlush
set_option linter.unusedVariables false
set_option linter.unusedSimpArgs false
namespace Go.Proofs.Ytedcpmkfanlicaa
open Go Go.RowKit Go.Sort Go.Lib Go.Maps
attribute [local go_sem ↓] run_size512 run_size513
attribute [local simp high] run_size512x run_size513x

/-- what is loose when a block is written -/
def putL (lo : List (Int × Nw)) (k : Int) (b : Blk) (clock : Int) : List (Int × Nw) :=
  if (look lo k).isSome then lo.map (fun a => if a.1 = k then (a.1, ⟨b, a.2.since⟩) else a) else lo ++ [(k, ⟨b, clock + 1⟩)]
def sinceP (lo : List (Int × Nw)) (k : Int) (clock : Int) : Int := match look lo k with | some x => x.since | none => clock + 1
def clockP (lo : List (Int × Nw)) (k : Int) (clock : Int) : Int := if (look lo k).isSome then clock else clock + 1
theorem putL_keys (lo : List (Int × Nw)) (k : Int) (b : Blk) (c : Int) : (putL lo k b c).map (·.1) = if (look lo k).isSome then lo.map (·.1) else lo.map (·.1) ++ [k] := by
  unfold putL
  split
  · rw [List.map_map]
    apply List.map_congr_left
    intro a _
    simp only [Function.comp]
    split <;> rfl
  · simp
theorem look_none {lo : List (Int × Nw)} {k : Int} (h : (look lo k).isSome = false) : k ∉ lo.map (·.1) := fun hk => by
  have := (look_keys lo k).1 hk
  rw [Option.isSome_map, h] at this
  cases this
theorem look_putL (lo : List (Int × Nw)) (k : Int) (b : Blk) (c : Int) (y : Int) : look (putL lo k b c) y = if y = k then some ⟨b, sinceP lo k c⟩ else look lo y := by
  unfold putL
  cases hs : (look lo k).isSome with
  | true =>
    rw [if_pos rfl]
    have gen : ∀ l : List (Int × Nw), look (l.map (fun a => if a.1 = k then (a.1, ⟨b, a.2.since⟩) else a)) y = if y = k then (look l k).map (fun x => ⟨b, x.since⟩) else look l y := by
      intro l
      induction l with
      | nil => simp [look]
      | cons a r ih =>
        unfold look at ih ⊢
        rw [List.map_cons]
        by_cases ha : a.1 = k
        · by_cases hy : y = k
          · subst hy; subst ha; simp
          · rw [if_pos ha]
            have h1 : ¬ a.1 = y := fun e => hy (by rw [← e, ha])
            rw [List.find?_cons_of_neg (by simpa using h1), ih, if_neg hy, if_neg hy, List.find?_cons_of_neg (by simpa using h1)]
        · rw [if_neg ha]
          by_cases h1 : a.1 = y
          · have hy : ¬ y = k := fun e => ha (by rw [h1, e])
            rw [if_neg hy]
            rw [List.find?_cons_of_pos (by simpa using h1), List.find?_cons_of_pos (by simpa using h1)]
          · rw [List.find?_cons_of_neg (by simpa using h1), ih]
            by_cases hy : y = k
            · rw [if_pos hy, if_pos hy, List.find?_cons_of_neg (by simpa using ha)]
            · rw [if_neg hy, if_neg hy, List.find?_cons_of_neg (by simpa using h1)]
    rw [gen]
    by_cases hy : y = k
    · rw [if_pos hy, if_pos hy]
      obtain ⟨x, hx⟩ := Option.isSome_iff_exists.1 hs
      simp [sinceP, hx]
    · rw [if_neg hy, if_neg hy]
  | false =>
    rw [if_neg (by simp)]
    have hn : look lo k = none := by cases h : look lo k with | none => rfl | some x => rw [h] at hs; cases hs
    unfold look
    rw [List.find?_append]
    by_cases hy : y = k
    · subst hy
      have h0 : lo.find? (fun x => x.1 == y) = none := by unfold look at hn; simpa using hn
      rw [h0, if_pos rfl]
      simp [sinceP, hn]
    · rw [if_neg hy]
      have h1 : ¬ k = y := fun e => hy e.symm
      rw [List.find?_cons_of_neg (by simpa using h1)]
      simp
section
variable {w : World} {p mf ml nf nl : Nat} {d : Dv} {G : Int → Option Blk} {lo : List (Int × Nw)}
theorem putL_ok (H : DevAt w p d mf ml nf nl G lo) {k : Int} {b : Blk} (fb : Full b) (hc : 0 ≤ d.clock) :
    (∀ x ∈ putL lo k b d.clock, Full x.2.of) ∧ ((putL lo k b d.clock).map (·.1)).Nodup ∧ (putL lo k b d.clock).Pairwise (fun a b => a.2.since < b.2.since) ∧ ∀ x ∈ putL lo k b d.clock, 0 ≤ x.2.since ∧ x.2.since ≤ clockP lo k d.clock := by
  have hK := putL_keys lo k b d.clock
  unfold clockP
  cases hs : (look lo k).isSome with
  | true =>
    rw [hs, if_pos rfl] at hK
    unfold putL
    rw [hs]
    simp only [if_true]
    refine ⟨fun x hx => ?_, ?_, ?_, fun x hx => ?_⟩
    · obtain ⟨a, ha, rfl⟩ := List.mem_map.1 hx
      split
      · exact fb
      · exact H.fullL a ha
    · unfold putL at hK; rw [hs, if_pos rfl] at hK; rw [hK]; exact H.keys
    · rw [List.pairwise_map]
      refine H.rise.imp fun {a b} h => ?_
      split <;> split <;> exact h
    · obtain ⟨a, ha, rfl⟩ := List.mem_map.1 hx
      split <;> exact H.young a ha
  | false =>
    rw [hs, if_neg (by simp)] at hK
    have hno := look_none hs
    unfold putL
    rw [hs]
    simp only [Bool.false_eq_true, if_false]
    refine ⟨fun x hx => ?_, ?_, ?_, fun x hx => ?_⟩
    · rcases List.mem_append.1 hx with h | h
      · exact H.fullL x h
      · rw [List.mem_singleton] at h; subst h; exact fb
    · rw [List.map_append, List.nodup_append]
      refine ⟨H.keys, by simp, fun a ha b hb => ?_⟩
      simp only [List.map_cons, List.map_nil, List.mem_singleton] at hb
      subst hb
      exact fun e => hno (e ▸ ha)
    · rw [List.pairwise_append]
      refine ⟨H.rise, List.pairwise_singleton _ _, fun a ha b hb => ?_⟩
      rw [List.mem_singleton] at hb
      subst hb
      have := (H.young a ha).2
      show a.2.since < d.clock + 1
      omega
    · rcases List.mem_append.1 hx with h | h
      · have := H.young x h; omega
      · rw [List.mem_singleton] at h; subst h; exact ⟨by show 0 ≤ d.clock + 1; omega, Int.le_refl _⟩
end
end Go.Proofs.Ytedcpmkfanlicaa
