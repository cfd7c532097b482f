/- slices.SortedFunc of the keys of the loose blocks: in their order. -/
import Derived.Test.YtedcpmkfanlicaaDvCmp
set_option linter.unusedVariables false
set_option linter.unusedSimpArgs false
namespace Go.Proofs.Ytedcpmkfanlicaa
open Go Go.RowKit Go.Sort Go.Lib Go.Maps

section
variable {α : Type} [Inhabited α] {enc : α → Value}
theorem holds_row {w : World} {g : Nat} {cur : Array Value} {e : TypeId} {ds : List α} (hb : w.heap[g]? = some (.cells cur e (0, 0))) (ht : cur.toList.take ds.length = ds.map enc) : Holds enc w g 0 ds.toArray := by
  intro j hj
  have hj' : j < ds.length := by simpa using hj
  refine ⟨?_, by simp [World.frozen?, hb]⟩
  have h1 : (cur.toList.take ds.length)[j]? = (ds.map enc)[j]? := by rw [ht]
  rw [List.getElem?_take_of_lt hj'] at h1
  simp only [World.cell?, hb, Nat.zero_add]
  simp only [Option.isSome_none, Bool.false_eq_true, if_false]
  rw [← Array.getElem?_toList, h1]
  simp [hj']
theorem heap_sort {w : World} {g n : Nat} {os : Array Obj} {cur : Array Value} {e : TypeId} {fr : Nat × Nat} (d : Array α) (hb : w.heap[g]? = some (.cells cur e fr)) :
    (sortWorld enc w g 0 n d os).heap[g]? = some (.cells (putCells enc 0 d cur) e fr) := by
  have hg : g < w.heap.size := (Array.getElem?_eq_some_iff.1 hb).1
  unfold sortWorld
  rw [heap_grow_old _ _ (by simpa using hg)]
  simp [putRow, mapBlock, Sort.ahead, Array.getElem?_modify, hb, onCells]
theorem chg_sort {w : World} {g n : Nat} {os : Array Obj} (d : Array α) : Chg (fun i => i = g) w (sortWorld enc w g 0 n d os) := by
  refine ⟨rfl, rfl, rfl, by simp [sortWorld], fun k hk hne => ?_⟩
  unfold sortWorld
  rw [heap_grow_old _ _ (by simpa using hk)]
  have : g ≠ k := fun e => hne e.symm
  simp [putRow, mapBlock, Sort.ahead, Array.getElem?_modify, this]
theorem take_put (cur : Array Value) (ts : List α) (h : ts.length ≤ cur.size) : (putCells enc 0 ts.toArray cur).toList.take ts.length = ts.map enc := by
  apply List.ext_getElem?
  intro j
  by_cases hj : j < ts.length
  · rw [List.getElem?_take_of_lt hj, Array.getElem?_toList]
    simp [putCells, hj, show j < cur.size by omega]
  · rw [List.getElem?_take_eq_none (by omega), List.getElem?_eq_none (by simp; omega)]
theorem owns_sort {w : World} {base g cap n : Nat} {e : TypeId} {os : Array Obj} {cur : Array Value} {ts : List α} (hbase : base ≤ g) (hb : w.heap[g]? = some (.cells cur e (0, 0)))
    (h1 : ts.length ≤ cap) (h2 : cap ≤ maxLen) (h3 : cur.size = cap * 1) :
    (sortWorld enc w g 0 n ts.toArray os).ownsRow base e 1 (.slice (some ⟨g, 0, none⟩) ts.length cap) ts.length (ts.map enc) :=
  ⟨by simp, .inr ⟨g, cap, _, rfl, hbase, heap_sort _ hb, h1, h2, by simp [putCells, h3], by rw [Nat.mul_one]; exact take_put cur ts (by omega)⟩⟩
end

abbrev K64 := {x : Int // wfK x}
instance : Inhabited K64 := ⟨⟨0, (wfK_iff 0).2 (by decide)⟩⟩
def enc64 (x : K64) : Value := .int .i64 x.1
theorem one64 : OneCell enc64 := fun x => rfl
def cmp64 (lo : List (Int × Nw)) (x y : K64) : Int := sinceOf lo x.1 - sinceOf lo y.1
theorem lt64 (lo : List (Int × Nw)) (x y : K64) : ltOf (cmp64 lo) x y = decide (sinceOf lo x.1 < sinceOf lo y.1) := by
  unfold ltOf cmp64
  rw [Bool.eq_iff_iff, decide_eq_true_eq, decide_eq_true_eq]
  omega
theorem swo64 (lo : List (Int × Nw)) : SWO (ltOf (cmp64 lo)) where
  irrefl x := by rw [lt64]; simp
  trans x y z h1 h2 := by rw [lt64, decide_eq_true_eq] at *; omega
  ntrans x y z h1 h2 := by rw [lt64, decide_eq_false_iff_not] at *; omega
theorem look_of_mem {lo : List (Int × Nw)} (hk : (lo.map (·.1)).Nodup) {k : Int} {x : Nw} (h : (k, x) ∈ lo) : look lo k = some x := by
  induction lo with
  | nil => cases h
  | cons a r ih =>
    rw [List.map_cons, List.nodup_cons] at hk
    rcases List.mem_cons.1 h with e | e
    · subst e; simp [look]
    · have hne : ¬ a.1 = k := fun e' => hk.1 (by rw [e']; exact List.mem_map_of_mem (f := (·.1)) e)
      have := ih hk.2 e
      unfold look at this ⊢
      rw [List.find?_cons_of_neg (by simpa using hne)]
      exact this
/-- a list of the same keys that does not fall is the list -/
theorem sorted_keys {lo : List (Int × Nw)} (hk : (lo.map (·.1)).Nodup) (hr : lo.Pairwise (fun a b => a.2.since < b.2.since)) {ks : List Int} (hp : ks.Perm (lo.map (·.1))) (hs : ks.Pairwise (fun a b => sinceOf lo a ≤ sinceOf lo b)) : ks = lo.map (·.1) := by
  have hs2 : (lo.map (·.1)).Pairwise (fun a b => sinceOf lo a < sinceOf lo b) := by
    rw [List.pairwise_map]
    refine hr.imp_of_mem fun {a b} ha hb h => ?_
    have e1 : look lo a.1 = some a.2 := look_of_mem hk ha
    have e2 : look lo b.1 = some b.2 := look_of_mem hk hb
    simp only [sinceOf, e1, e2]
    exact h
  refine List.Perm.eq_of_pairwise (le := fun a b => sinceOf lo a ≤ sinceOf lo b) (fun a b ha hb h1 h2 => ?_) hs (hs2.imp fun h => Int.le_of_lt h) hp
  -- two keys of one 'since'
  have hb' : b ∈ lo.map (·.1) := hb
  have ha' : a ∈ lo.map (·.1) := hp.mem_iff.1 ha
  by_cases e : a = b
  · exact e
  · exfalso
    obtain ⟨i, hi, rfl⟩ := List.getElem_of_mem ha'
    obtain ⟨j, hj, rfl⟩ := List.getElem_of_mem hb'
    have hij : i ≠ j := fun e' => e (by subst e'; rfl)
    rw [List.pairwise_iff_getElem] at hs2
    rcases Nat.lt_or_gt_of_ne hij with h | h
    · have := hs2 i j hi hj h; omega
    · have := hs2 j i hj hi h; omega

theorem below_chg {B : Nat} {w w' : World} (h : RowKit.Below B w w') : Chg (fun i => B ≤ i) w w' := ⟨h.os, h.tape, h.output, h.size, fun i hi hne => h.block i (by omega)⟩
/-- a numbers' list of subtypes -/
def sub64 : (ks : List Int) → (∀ x ∈ ks, wfK x) → List K64
  | [], _ => []
  | k :: r, h => ⟨k, h k (by simp)⟩ :: sub64 r (fun x hx => h x (by simp [hx]))
theorem sub64_val : ∀ (ks : List Int) (h : ∀ x ∈ ks, wfK x), (sub64 ks h).map (·.1) = ks
  | [], _ => rfl
  | k :: r, h => by simp only [sub64, List.map_cons, sub64_val r]
theorem sub64_enc (ks : List Int) (h : ∀ x ∈ ks, wfK x) : (sub64 ks h).map enc64 = ks.map encZ := by
  conv => rhs; rw [← sub64_val ks h]
  rw [List.map_map]
  rfl
theorem sub64_length (ks : List Int) (h : ∀ x ∈ ks, wfK x) : (sub64 ks h).length = ks.length := by
  have := congrArg List.length (sub64_val ks h)
  simpa using this

set_option maxHeartbeats 1000000 in
theorem sorted_of {w : World} {p g Bm ml nl : Nat} {lo : List (Int × Nw)} (hg : w.cell? ⟨g, 0, none⟩ = some (.pointer (some ⟨p, 0, none⟩))) (hp : w.cell? ⟨p, 2, none⟩ = some (.map (some ml))) (hB : w.cell? ⟨Bm, 0, none⟩ = some (.map (some ml))) (hm : MapIs w ml nl (fun k => (look lo k).map nwV))
    (hf : ∀ x ∈ lo, Full x.2.of) (hy : ∀ x ∈ lo, 0 ≤ x.2.since ∧ x.2.since ≤ 1000000) (hk : (lo.map (·.1)).Nodup) (hr : lo.Pairwise (fun a b => a.2.since < b.2.since)) (hn : nl ≤ 1000000) :
    Calls Try.prog 45 #[.func (.func 52) #[] #[.pointer (some ⟨Bm, 0, none⟩)], .func (.func 47) #[] #[.pointer (some ⟨g, 0, none⟩)]] w fun e w' => ∃ v, e = .returned v ∧ w'.ownsRow w.heap.size 3 1 v lo.length ((lo.map (·.1)).map encZ) ∧ Chg (fun _ => False) w w' := by
  have c1 := Lib.hid (collect_of hm (block_lt_of_cell hB) hB hn)
  have HG := Lib.hid hg
  have HP := Lib.hid hp
  have HM := Lib.hid hm
  have HF := Lib.hid hf
  have HY := Lib.hid hy
  have HK := Lib.hid hk
  have HR := Lib.hid hr
  have WF : Hid (∀ x ∈ lo.map (·.1), wfK x) := fun x hx => hm.wf ((look_keys lo x).1 hx)
  have gl := block_lt_of_cell hg
  have pl := block_lt_of_cell hp
  have mlt := hm.lt
  clear hg hp hB hm hf hy hk hr
  go_enter Try.func45, Try.ntmps45
  go_wp2_with fail
  refine c1.out.mono ?_
  rintro e w1 ⟨v, ss, rfl, nd, mem, len, own, nil, bel⟩
  have PM : Hid (ss.Perm (lo.map (·.1))) := (List.perm_ext_iff_of_nodup nd HK.out).2 fun x => by rw [mem, look_keys]
  have X1 := Lib.hid (below_chg bel)
  have OW := Lib.hid own
  clear c1 mem nd bel
  by_cases h0 : ss = []
  · have hv := nil.2 h0
    subst hv
    have q0 := AnyF.slices_SortFunc_none ({ Try.sortK with } : SlLaysF0.n6 Try.prog Try.sortK_ren) none 0 (.func (.func 47) #[] #[.pointer (some ⟨g, 0, none⟩)]) w1
    change Calls Try.prog 51 _ _ _ at q0
    have q := Lib.hid q0
    clear q0 nil
    go_wp2_with fail
    refine q.out.mono ?_
    rintro e w2 ⟨rfl, hw⟩
    have hw := hw.symm
    subst hw
    go_wp2
    go_ret
    have hl : lo = [] := by
      have := PM.out.length_eq
      rw [h0] at this
      exact List.eq_nil_of_length_eq_zero (by simpa using this.symm)
    refine ⟨_, rfl, ?_, X1.out.mono fun i hi h => absurd hi (by omega)⟩
    have := OW.out
    rw [h0] at this
    rw [hl]
    exact this
  · rcases OW.out.2 with ⟨hv, _⟩ | ⟨g2, cap, cur, hv, hg2, hh, r1, r2, r3, r4⟩
    · exact absurd (nil.1 hv) h0
    · subst hv
      have wf : ∀ x ∈ ss, wfK x := fun x hx => WF.out x (PM.out.mem_iff.1 hx)
      have el := sub64_length ss wf
      have ee := sub64_enc ss wf
      have ev := sub64_val ss wf
      generalize sub64 ss wf = ds at el ee ev
      rw [Nat.mul_one, ← ee, ← el] at r4
      have HH := holds_row (enc := enc64) hh r4
      have g2l : g2 < w1.heap.size := (Array.getElem?_eq_some_iff.1 hh).1
      have eg : ∀ args w, (callFunc 47 args).run Try.prog w = .ok (.enter 47 args) w := enters_of Try.func47 (by kernel_rfl) rfl
      have hc : CmpLays1 Try.prog 47 #[.pointer (some ⟨g, 0, none⟩)] enc64 (cmp64 lo) g2 0 ds.toArray.size w1 := by
        intro m os dk _ x y
        have X2 : Chg (fun i => w.heap.size ≤ i) w (sortWorld enc64 w1 g2 0 m dk os) := X1.out.trans (chg_sort dk) (fun i hi h => by subst h; exact hg2)
        have := cmp_any (X2.cell HG.out (show ¬ w.heap.size ≤ g by omega)) (X2.cell HP.out (show ¬ w.heap.size ≤ p by omega)) (HM.out.chg X2 (show ¬ w.heap.size ≤ ml by omega)) HF.out HY.out x.1 y.1 x.2 y.2
        exact this.mono fun e w' ⟨he, q, hq⟩ => ⟨he, q, #[], by rw [hq, grow_empty]⟩
      have q0 := Any.slices_SortFunc Try.sortK enc64 one64 (cmp64 lo) (swo64 lo) 47 #[.pointer (some ⟨g, 0, none⟩)] g2 0 cap ds.toArray w1 eg hc HH g2l (by simp [el]; omega)
      change Calls Try.prog 51 _ _ _ at q0
      rw [show ds.toArray.size = ss.length by simp [el]] at q0
      have q := Lib.hid q0
      have EV := Lib.hid ev
      have EL := Lib.hid el
      clear q0 hc HH r4 ee ev nil el
      go_wp2_with fail
      refine q.out.mono ?_
      rintro e w2 ⟨rfl, d', n, os, hp, hs, rfl⟩
      go_wp2
      go_ret
      have hd : d'.size = ss.length := by have := hp.1; simpa [EL.out] using this
      have hperm : d'.toList.Perm ds := by
        have h1 := hp.2.2
        rw [show d'.extract 0 ss.length = d' by rw [← hd]; simp, show ds.toArray.extract 0 ss.length = ds.toArray by rw [← EL.out]; simp] at h1
        simpa using h1
      have e1 : d'.toList.map (·.1) = lo.map (·.1) := by
        refine sorted_keys HK.out HR.out ((hperm.map _).trans (by rw [EV.out]; exact PM.out)) ?_
        rw [List.pairwise_map, List.pairwise_iff_getElem]
        intro i j hi hj hij
        have := hs i j (Nat.zero_le _) hij (by simpa [hd] using hj)
        rw [lt64, decide_eq_false_iff_not] at this
        have a1 : d'[i]! = d'.toList[i] := by rw [getElem!_pos d' i (by simpa using hi)]; simp
        have a2 : d'[j]! = d'.toList[j] := by rw [getElem!_pos d' j (by simpa using hj)]; simp
        rw [a1, a2] at this
        omega
      have l1 : d'.toList.length = ss.length := by simpa using hd
      have l2 : lo.length = ss.length := by have := PM.out.length_eq; simpa using this.symm
      have own2 := owns_sort (enc := enc64) (n := n) (os := os) (ts := d'.toList) hg2 hh (by rw [l1]; exact r1) r2 r3
      refine ⟨_, rfl, ?_, X1.out.trans (chg_sort d') (fun i hi h => by subst h; exact hg2) |>.mono fun i hi h => absurd hi (by omega)⟩
      have e2 : d'.toList.map enc64 = (lo.map (·.1)).map encZ := by rw [← e1, List.map_map]; rfl
      rw [e2, l1] at own2
      rw [l2]
      simpa using own2
end Go.Proofs.Ytedcpmkfanlicaa
