/- slices.SortFunc at a list of spans: the shelf's laying at this program (its plain text, as the shelf's tool lay-plain writes it), and what the sort leaves. -/
import Derived.Test.YtfeomnkgkppdlaaSpDel
import Derived.Test.YtfeomnkgkppdlaaOrder
set_option linter.unusedVariables false
set_option linter.unusedSimpArgs false
namespace Go.Proofs
open Go.Shelf
def Try.sortK_ren : Go.Shelf.Ren := ⟨fun | 6 => 32 | 15 => 48 | 14 => 47 | 28 => 62 | 29 => 63 | 20 => 54 | 21 => 55 | 22 => 56 | 23 => 57 | 24 => 58 | 25 => 59 | 26 => 60 | 27 => 61 | 46 => 65 | 47 => 66 | 48 => 67 | 49 => 68 | 50 => 69 | 57 => 70 | n => n, fun | 22 => 22 | 24 => 28 | 25 => 51 | 3 => 3 | 39 => 65 | 0 => 0 | 53 => 79 | 55 => 81 | 4 => 4 | 46 => 72 | 45 => 71 | 50 => 76 | 5 => 5 | 9 => 9 | 66 => 83 | 70 => 87 | 76 => 89 | 77 => 90 | n => n, fun | n => n⟩
theorem Try.sortK : Go.Proofs.SlLaysF0.n6 Try.prog Try.sortK_ren := {
  mixed := by kernel_rfl
  f6 := ⟨Try.f32.name, by decide, Try.func32.trans (congrArg some (by kernel_rfl))⟩
  f14 := ⟨Try.f47.name, by decide, Try.func47.trans (congrArg some (by kernel_rfl))⟩
  f15 := Try.func48.trans (congrArg some (by kernel_rfl))
  f20 := ⟨Try.f54.name, by decide, Try.func54.trans (congrArg some (by kernel_rfl))⟩
  f21 := ⟨Try.f55.name, by decide, Try.func55.trans (congrArg some (by kernel_rfl))⟩
  f22 := ⟨Try.f56.name, by decide, Try.func56.trans (congrArg some (by kernel_rfl))⟩
  f23 := ⟨Try.f57.name, by decide, Try.func57.trans (congrArg some (by kernel_rfl))⟩
  f24 := ⟨Try.f58.name, by decide, Try.func58.trans (congrArg some (by kernel_rfl))⟩
  f25 := ⟨Try.f59.name, by decide, Try.func59.trans (congrArg some (by kernel_rfl))⟩
  f26 := ⟨Try.f60.name, by decide, Try.func60.trans (congrArg some (by kernel_rfl))⟩
  f27 := ⟨Try.f61.name, by decide, Try.func61.trans (congrArg some (by kernel_rfl))⟩
  f28 := Try.func62.trans (congrArg some (by kernel_rfl))
  f29 := Try.func63.trans (congrArg some (by kernel_rfl))
  f46 := ⟨Try.f65.name, by decide, Try.func65.trans (congrArg some (by kernel_rfl))⟩
  f47 := Try.func66.trans (congrArg some (by kernel_rfl))
  f48 := Try.func67.trans (congrArg some (by kernel_rfl))
  f49 := ⟨Try.f68.name, by decide, Try.func68.trans (congrArg some (by kernel_rfl))⟩
  f50 := ⟨Try.f69.name, by decide, Try.func69.trans (congrArg some (by kernel_rfl))⟩
  f57 := ⟨Try.f70.name, by decide, Try.func70.trans (congrArg some (by kernel_rfl))⟩
  t0 := Try.underlying0
  a0 := Try.isAgg0
  z0 := Try.sizeOf0
  v0 := Try.zeroValue0
  t3 := Try.underlying3
  a3 := Try.isAgg3
  z3 := Try.sizeOf3
  v3 := Try.zeroValue3
  t4 := Try.underlying4
  a4 := Try.isAgg4
  z4 := Try.sizeOf4
  v4 := Try.zeroValue4
  t5 := Try.underlying5
  a5 := Try.isAgg5
  z5 := Try.sizeOf5
  v5 := Try.zeroValue5
  t9 := Try.underlying9
  a9 := Try.isAgg9
  z9 := Try.sizeOf9
  v9 := Try.zeroValue9
  t22 := Try.underlying22
  a22 := Try.isAgg22
  z22 := Try.sizeOf22
  v22 := Try.zeroValue22
  t25 := Try.underlying51
  a25 := Try.isAgg51
  z25 := Try.sizeOf51
  v25 := Try.zeroValue51
  t39 := Try.underlying65
  a39 := Try.isAgg65
  z39 := Try.sizeOf65
  v39 := Try.zeroValue65
  t45 := Try.underlying71
  a45 := Try.isAgg71
  z45 := Try.sizeOf71
  v45 := Try.zeroValue71
  t46 := Try.underlying72
  a46 := Try.isAgg72
  z46 := Try.sizeOf72
  v46 := Try.zeroValue72
  t50 := Try.underlying76
  a50 := Try.isAgg76
  z50 := Try.sizeOf76
  v50 := Try.zeroValue76
  t53 := Try.underlying79
  a53 := Try.isAgg79
  z53 := Try.sizeOf79
  v53 := Try.zeroValue79
  t55 := Try.underlying81
  a55 := Try.isAgg81
  z55 := Try.sizeOf81
  v55 := Try.zeroValue81
  t66 := Try.underlying83
  a66 := Try.isAgg83
  z66 := Try.sizeOf83
  v66 := Try.zeroValue83
  t70 := Try.underlying87
  a70 := Try.isAgg87
  z70 := Try.sizeOf87
  v70 := Try.zeroValue87
  t76 := Try.underlying89
  a76 := Try.isAgg89
  z76 := Try.sizeOf89
  v76 := Try.zeroValue89
  t77 := Try.underlying90
  a77 := Try.isAgg90
  z77 := Try.sizeOf90
  v77 := Try.zeroValue90 }
end Go.Proofs
namespace Go.Proofs.Ytfeomnkgkppdlaa
open Go Go.RowKit Go.Sort Go.Lib

theorem cmp_lays (blk off size : Nat) (w : World) : CmpLays Try.prog 33 #[] spanCells 49 cmpF blk off size w := fun _ _ _ _ x y =>
  (byFrom_any x y _).mono fun e w' ⟨he, hx⟩ => ⟨he, hx.exact⟩
/-- one begins ahead of the other -/
def ltF (a b : Sp) : Bool := ltK a.fr b.fr
theorem ltOf_cmpF : ltOf cmpF = ltF := rfl
theorem ltF_swo : SWO ltF where
  irrefl x := ltK_swo.irrefl _
  trans x y z h k := ltK_swo.trans _ _ _ h k
  ntrans x y z h k := ltK_swo.ntrans _ _ _ h k

theorem RowB.own {w : World} {g cap : Nat} {zs : List Sp} (h : RowB w g cap zs) (hc : cap ≤ maxLen) : w.ownsRow 0 28 49 (.slice (some ⟨g, 0, none⟩) zs.length cap) zs.length (flat spanCells zs) := by
  have hcap := h.cap
  obtain ⟨t, h1, h2⟩ := h
  refine ⟨flat_length spanCells_length zs, .inr ⟨g, cap, _, rfl, Nat.zero_le _, h1, hcap, hc, by simpa using h2, ?_⟩⟩
  rw [List.toList_toArray, List.take_append_of_le_length (by rw [flat_length spanCells_length]; omega), List.take_of_length_le (by rw [flat_length spanCells_length]; omega)]
theorem rowB_of_own {w : World} {B g cap n : Nat} {zs : List Sp} (h : w.ownsRow B 28 49 (.slice (some ⟨g, 0, none⟩) n cap) n (flat spanCells zs)) : RowB w g cap zs ∧ zs.length = n ∧ cap ≤ maxLen ∧ B ≤ g := by
  have hl := h.1
  rw [flat_length spanCells_length] at hl
  rcases h.2 with ⟨e, _⟩ | ⟨g', cap', cur, e, hB, hh, h1, h2, h3, h4⟩
  · cases e
  · cases e
    refine ⟨⟨cur.toList.drop (n * 49), ?_, ?_⟩, by omega, h2, hB⟩
    · rw [← h4, List.take_append_drop]; exact hh
    · rw [← h4, List.take_append_drop]; simpa using h3
/-- the sort at a row of spans of its own -/
theorem sort_some (g cap : Nat) (ss : List Sp) (w : World) (h : RowB w g cap ss) (hc : cap ≤ maxLen) (hn : ss.length < 4611686018427387904) :
    Calls Try.prog 32 #[.slice (some ⟨g, 0, none⟩) ss.length cap, .func (.func 33) #[] #[]] w fun e w' =>
      e = .returned (.tuple #[]) ∧ ∃ ss' : List Sp, ss'.Perm ss ∧ (∀ i j (_ : i < j) (hj : j < ss'.length), ltF ss'[j] (ss'[i]'(by omega)) = false) ∧ RowB w' g cap ss' ∧ Chg (fun i => i = g) w w' := by
  have eg : ∀ args w, (callFunc 33 args).run Try.prog w = .ok (.enter 33 args) w := enters_of Try.func33 (by kernel_rfl) rfl
  have own := h.own hc
  have hH := owns_holds (enc := spanCells) spanCells_length own
  have h0 := AnyQ.slices_SortFunc Try.sortK 49 Try.isAgg28 Try.sizeOf28 spanCells spanCells_length spanCells_one cmpF (by rw [ltOf_cmpF]; exact ltF_swo) 33 #[] g 0 cap ss.toArray w eg (cmp_lays _ _ _ _) hH h.lt (by simpa using hn)
  rw [ltOf_cmpF] at h0
  have e1 : ss.toArray.size = ss.length := by simp
  rw [e1] at h0
  change Calls Try.prog 32 _ _ _ at h0
  refine h0.mono ?_
  rintro e w' ⟨rfl, d', n, os, hp, hs, rfl⟩
  have hsz : d'.size = ss.length := by have := hp.1; simpa using this
  have hperm : d'.toList.Perm ss := by
    have := hp.2.2
    simp only [Array.toList_extract, List.extract_eq_take_drop, Nat.sub_zero, List.drop_zero] at this
    rw [List.take_of_length_le (by simp [hsz]), List.take_of_length_le (by simp)] at this
    simpa using this
  refine ⟨rfl, d'.toList, hperm, ?_, ?_, sort_chg spanCells 49 w g n d' os⟩
  · intro i j hij hj
    have hj' : j < ss.length := by simpa [hsz] using hj
    have := hs i j (Nat.zero_le _) hij hj'
    rw [getElem!_pos d' j (by omega), getElem!_pos d' i (by omega)] at this
    simpa using this
  · have o2 := sort_owns (enc := spanCells) (k := 49) (ks' := d'.toList) (n := n) (os := os) spanCells_length own (by simpa using hsz)
    have e2 : d'.toList.toArray = d' := by simp
    rw [e2] at o2
    exact (rowB_of_own o2).1
end Go.Proofs.Ytfeomnkgkppdlaa
