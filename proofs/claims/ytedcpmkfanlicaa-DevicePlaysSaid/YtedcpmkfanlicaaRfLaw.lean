/- Lists of blocks as the reference keeps them. -/
import Derived.Test.YtedcpmkfanlicaaRfAt
import Derived.Test.YtedcpmkfanlicaaDvBits
set_option linter.unusedVariables false
set_option linter.unusedSimpArgs false
namespace Go.Proofs.Ytedcpmkfanlicaa
open Go Go.RowKit Go.Sort Go.Lib Go.Maps Go.Deep
theorem atR_keys {L L' : List Rb} (h : L.map (·.k) = L'.map (·.k)) (n : Int) : atR L n = atR L' n := by
  have e : ∀ l : List Rb, atR l n = (l.map (·.k)).findIdx? (fun k => k == n) := fun l => by rw [List.findIdx?_map]; rfl
  rw [e, e, h]
theorem set_keys (L : List Rb) (i : Nat) (b : Rb) (hi : i < L.length) (hk : b.k = L[i].k) : (L.set i b).map (·.k) = L.map (·.k) := by
  apply List.ext_getElem?
  intro j
  rw [List.getElem?_map, List.getElem?_map, List.getElem?_set]
  split
  · next e => subst e; simp [hi, hk]
  · rfl
def bitS (mask : Int) (i : Nat) : Bool := mask / 2 ^ (i % 64) % 2 == 1
def resS (mask torn : Int) (b : Nat) (i : Nat) (old x : ByteArray) : ByteArray := if (i : Int) = torn then x.extract 0 b ++ old.extract b 512 else if bitS mask i then x else old
theorem bitS_eq (mask : Int) (hm : u64 mask) (i : Nat) : bitS mask i = (bits .and .u64 (mask / 2 ^ (i % 64)) 1 == 1) := by
  have hj : i % 64 < 64 := Nat.mod_lt _ (by decide)
  rw [bit_of mask hm _ hj]
  obtain ⟨M, rfl⟩ := Int.eq_ofNat_of_zero_le hm.1
  have hM : M < 18446744073709551616 := by have := hm.2; omega
  unfold bitS
  generalize i % 64 = j at hj
  have e1 : ((M : Int) / 2 ^ j) = ((M / 2 ^ j : Nat) : Int) := by push_cast; rfl
  have e3 : BitVec.ofInt 64 (M : Int) = BitVec.ofNat 64 M := by
    apply BitVec.eq_of_toNat_eq
    rw [BitVec.toNat_ofInt, BitVec.toNat_ofNat]
    omega
  rw [e1, e3, BitVec.getLsbD_ofNat, Nat.testBit_eq_decide_div_mod_eq]
  simp only [hj, decide_true, Bool.true_and]
  generalize M / 2 ^ j = q
  have : q % 2 < 2 := Nat.mod_lt _ (by decide)
  by_cases h : q % 2 = 1
  · have h2 : (q : Int) % 2 = 1 := by omega
    rw [h, h2]; rfl
  · have h1 : q % 2 = 0 := by omega
    have h2 : (q : Int) % 2 = 0 := by omega
    rw [h1, h2]; rfl
theorem resS_eq {mask torn : Int} (hm : u64 mask) {b : Nat} (hb : b ≤ 512) (i : Nat) {old x : Blk} (fo : Full old) : resS mask torn b i (strB old) (strB x) = strB (resC mask torn b i old x) := by
  unfold resS resC
  split
  · exact strB_torn fo.1 hb
  · rw [bitS_eq mask hm]
    split <;> rfl
def putR (L : List Rb) (j : Nat) (s : ByteArray) : List Rb := L.set j ⟨(L[j]?.getD default).k, s, s⟩
def crashL (res : Nat → ByteArray → ByteArray → ByteArray) : Nat → List Rb → List Int → List Rb
  | _, L, [] => L
  | i, L, k :: r => crashL res (i + 1) (match atR L k with | some j => putR L j (res i (L[j]?.getD default).fl (L[j]?.getD default).nw) | none => L) r
/-- what the two sides say of one block -/
def FindOk (L : List Rb) (G : Int → Option Blk) (lo : List (Int × Nw)) : Prop :=
  ∀ k, match atR L k with
    | none => G k = none ∧ look lo k = none
    | some j => (L[j]?.getD default).fl = strB ((G k).getD zeroBlk) ∧ (L[j]?.getD default).nw = strB (newest G lo k)
theorem findOk_nil : FindOk [] (fun _ => none) [] := fun k => ⟨rfl, rfl⟩
theorem FindOk.newest {L : List Rb} {G : Int → Option Blk} {lo : List (Int × Nw)} (h : FindOk L G lo) (k : Int) : newestR L k = strB (newest G lo k) := by
  have hk := h k
  unfold newestR
  cases ha : atR L k with
  | none =>
    rw [ha] at hk
    show noughtS = _
    unfold Go.Proofs.Ytedcpmkfanlicaa.newest
    rw [hk.2, hk.1]
    rfl
  | some j =>
    rw [ha] at hk
    exact hk.2
theorem getD_set_same {L : List Rb} {j : Nat} (hj : j < L.length) (b : Rb) : ((L.set j b)[j]?.getD default) = b := by simp [hj]
theorem getD_set_other {L : List Rb} {i j : Nat} (h : i ≠ j) (b : Rb) : ((L.set i b)[j]?.getD default) = (L[j]?.getD default) := by simp [List.getElem?_set, h]
theorem getD_lt {L : List Rb} {j : Nat} (hj : j < L.length) : (L[j]?.getD default) = L[j] := by simp [hj]
/-- an entry is changed -/
theorem FindOk.set {L : List Rb} {G G' : Int → Option Blk} {lo lo' : List (Int × Nw)} (h : FindOk L G lo) {k : Int} {j : Nat} (ha : atR L k = some j) {fl nw : ByteArray} (hf : fl = strB ((G' k).getD zeroBlk)) (hn : nw = strB (Go.Proofs.Ytedcpmkfanlicaa.newest G' lo' k))
    (ho : ∀ y, y ≠ k → G' y = G y ∧ look lo' y = look lo y) : FindOk (L.set j ⟨(L[j]?.getD default).k, fl, nw⟩) G' lo' := by
  obtain ⟨hj, hk⟩ := atR_lt ha
  have hK : (L.set j ⟨(L[j]?.getD default).k, fl, nw⟩).map (·.k) = L.map (·.k) := set_keys L j _ hj (by rw [getD_lt hj])
  intro y
  rw [atR_keys hK]
  have hy := h y
  by_cases e : y = k
  · subst e
    rw [ha]
    show _ ∧ _
    rw [getD_set_same hj]
    exact ⟨hf, hn⟩
  · obtain ⟨o1, o2⟩ := ho y e
    cases hay : atR L y with
    | none => rw [hay] at hy; exact ⟨o1.trans hy.1, o2.trans hy.2⟩
    | some i =>
      rw [hay] at hy
      have hij : j ≠ i := fun e' => by
        subst e'
        obtain ⟨_, hk'⟩ := atR_lt hay
        exact e (hk'.symm.trans hk)
      show _ ∧ _
      rw [getD_set_other hij]
      refine ⟨by rw [o1]; exact hy.1, ?_⟩
      have : Go.Proofs.Ytedcpmkfanlicaa.newest G' lo' y = Go.Proofs.Ytedcpmkfanlicaa.newest G lo y := by unfold Go.Proofs.Ytedcpmkfanlicaa.newest; rw [o2, o1]
      rw [this]; exact hy.2
theorem crash_ok {mask torn : Int} (hm : u64 mask) {b : Nat} (hb : b ≤ 512) : ∀ (lo : List (Int × Nw)) (i : Nat) (L : List Rb) (G : Int → Option Blk), FindOk L G lo → (lo.map (·.1)).Nodup → (∀ k b, G k = some b → Full b) → (∀ x ∈ lo, Full x.2.of) →
    FindOk (crashL (resS mask torn b) i L (lo.map (·.1))) (settleG (resC mask torn b) i G lo) []
  | [], i, L, G, h, _, _, _ => h
  | a :: r, i, L, G, h, hnd, hG, hl => by
    rw [List.map_cons, List.nodup_cons] at hnd
    have ha := h a.1
    have hla : look (a :: r) a.1 = some a.2 := by
      unfold look
      rw [List.find?_cons_of_pos (by simp)]
      rfl
    have hra : look r a.1 = none := by
      cases hl' : look r a.1 with
      | none => rfl
      | some x => exact absurd (List.mem_map_of_mem (f := (·.1)) (look_mem hl')) hnd.1
    have fo : Full ((G a.1).getD zeroBlk) := by
      cases hg : G a.1 with
      | none => exact full_zero
      | some u => exact hG _ u hg
    have fx := hl a (by simp)
    show FindOk (crashL _ (i + 1) (match atR L a.1 with | some j => putR L j (resS mask torn b i (L[j]?.getD default).fl (L[j]?.getD default).nw) | none => L) (r.map (·.1))) (settleG _ (i + 1) (putG G a.1 _) r) []
    refine crash_ok hm hb r (i + 1) _ _ ?_ hnd.2 ?_ (fun x hx => hl x (by simp [hx]))
    · cases hat : atR L a.1 with
      | none => rw [hat] at ha; rw [hla] at ha; exact absurd ha.2 (by simp)
      | some j =>
        rw [hat] at ha
        have hn : Go.Proofs.Ytedcpmkfanlicaa.newest G (a :: r) a.1 = a.2.of := by unfold Go.Proofs.Ytedcpmkfanlicaa.newest; rw [hla]
        show FindOk (putR L j _) _ _
        rw [ha.1, ha.2, hn, resS_eq hm hb i fo]
        refine h.set hat (fl := strB _) (nw := strB _) ?_ ?_ ?_
        · unfold putG; rw [if_pos rfl]; rfl
        · unfold Go.Proofs.Ytedcpmkfanlicaa.newest
          rw [hra]
          show _ = strB ((putG G a.1 _ a.1).getD zeroBlk)
          unfold putG; rw [if_pos rfl]; rfl
        · intro y hy
          refine ⟨by unfold putG; rw [if_neg hy], ?_⟩
          unfold look
          rw [List.find?_cons_of_neg (by simpa using fun e => hy e.symm)]
    · intro k b' hb'
      unfold putG at hb'
      split at hb'
      · cases hb'; exact full_resC hb fo fx
      · exact hG k b' hb'
def flushL (L : List Rb) : List Rb := L.map fun b => ⟨b.k, b.nw, b.nw⟩
theorem flush_ok {L : List Rb} {G : Int → Option Blk} {lo : List (Int × Nw)} (h : FindOk L G lo) (hnd : (lo.map (·.1)).Nodup) : FindOk (flushL L) (settleG resF 0 G lo) [] := by
  have hK : (flushL L).map (·.k) = L.map (·.k) := by unfold flushL; rw [List.map_map]; rfl
  intro k
  rw [atR_keys hK]
  have hk := h k
  have hs := settleF lo 0 G k hnd
  have hN : (settleG resF 0 G lo k).getD zeroBlk = Go.Proofs.Ytedcpmkfanlicaa.newest G lo k := by
    rw [hs]; unfold Go.Proofs.Ytedcpmkfanlicaa.newest
    cases look lo k <;> rfl
  cases ha : atR L k with
  | none =>
    rw [ha] at hk
    refine ⟨?_, rfl⟩
    rw [hs, hk.2]; exact hk.1
  | some j =>
    rw [ha] at hk
    obtain ⟨hj, _⟩ := atR_lt ha
    have e : ((flushL L)[j]?.getD default) = ⟨(L[j]?.getD default).k, (L[j]?.getD default).nw, (L[j]?.getD default).nw⟩ := by
      unfold flushL
      simp [hj]
    show _ ∧ _
    rw [e]
    refine ⟨by rw [hN]; exact hk.2, ?_⟩
    show _ = strB ((settleG resF 0 G lo k).getD zeroBlk)
    rw [hN]; exact hk.2
def writeL (L : List Rb) (k : Int) (s : ByteArray) : List Rb := match atR L k with | some j => L.set j ⟨(L[j]?.getD default).k, (L[j]?.getD default).fl, s⟩ | none => L ++ [⟨k, noughtS, s⟩]
theorem atR_append {L : List Rb} {b : Rb} {y : Int} : atR (L ++ [b]) y = match atR L y with | some i => some i | none => if b.k = y then some L.length else none := by
  unfold atR
  rw [List.findIdx?_append]
  cases h : L.findIdx? (fun b => b.k == y) with
  | some i => rfl
  | none =>
    by_cases e : b.k = y
    · simp [List.findIdx?_cons, e]
    · simp [List.findIdx?_cons, e]
theorem write_ok_ref {L : List Rb} {G : Int → Option Blk} {lo : List (Int × Nw)} (h : FindOk L G lo) (k : Int) (b : Blk) (c : Int) : FindOk (writeL L k (strB b)) G (putL lo k b c) := by
  have hl : ∀ y, y ≠ k → look (putL lo k b c) y = look lo y := fun y hy => by rw [look_putL, if_neg hy]
  have hn : Go.Proofs.Ytedcpmkfanlicaa.newest G (putL lo k b c) k = b := by unfold Go.Proofs.Ytedcpmkfanlicaa.newest; rw [look_putL, if_pos rfl]
  have hk := h k
  unfold writeL
  cases ha : atR L k with
  | some j =>
    rw [ha] at hk
    exact h.set ha hk.1 (by rw [hn]) (fun y hy => ⟨rfl, hl y hy⟩)
  | none =>
    rw [ha] at hk
    intro y
    rw [atR_append]
    have hy := h y
    by_cases e : y = k
    · subst e
      rw [ha]
      show match (if y = y then some L.length else none) with | none => _ | some j => _
      rw [if_pos rfl]
      show _ ∧ _
      have e2 : ((L ++ [⟨y, noughtS, strB b⟩])[L.length]?.getD default) = ⟨y, noughtS, strB b⟩ := by simp
      rw [e2, hn, hk.1]
      exact ⟨rfl, rfl⟩
    · cases hay : atR L y with
      | none =>
        rw [hay] at hy
        show match (if k = y then some L.length else none) with | none => _ | some j => _
        rw [if_neg (fun e' => e e'.symm)]
        exact ⟨hy.1, (hl y e).trans hy.2⟩
      | some i =>
        rw [hay] at hy
        obtain ⟨hi, _⟩ := atR_lt hay
        have e2 : ((L ++ [⟨k, noughtS, strB b⟩])[i]?.getD default) = (L[i]?.getD default) := by rw [List.getElem?_append_left hi]
        show _ ∧ _
        rw [e2]
        refine ⟨hy.1, ?_⟩
        have : Go.Proofs.Ytedcpmkfanlicaa.newest G (putL lo k b c) y = Go.Proofs.Ytedcpmkfanlicaa.newest G lo y := by unfold Go.Proofs.Ytedcpmkfanlicaa.newest; rw [hl y e]
        rw [this]; exact hy.2
end Go.Proofs.Ytedcpmkfanlicaa
