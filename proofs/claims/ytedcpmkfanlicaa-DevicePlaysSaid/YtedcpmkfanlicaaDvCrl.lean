/- What a crash leaves of eight blocks: a plain law on states. -/
import Derived.Test.YtedcpmkfanlicaaDvLaw
set_option linter.unusedVariables false
set_option linter.unusedSimpArgs false
namespace Go.Proofs.Ytedcpmkfanlicaa
open Go Go.RowKit Go.Sort Go.Lib Go.Maps
theorem bits65535 (n : Int) : bits .and .i64 n 65535 = n % 65536 := by
  have h : (BitVec.ofInt 64 65535).toNat = 2 ^ 16 - 1 := by decide
  have key : (BitVec.ofInt 64 n &&& BitVec.ofInt 64 65535).toNat = (n % ((2 ^ 64 : Nat) : Int)).toNat % 2 ^ 16 := by
    rw [BitVec.toNat_and, BitVec.toNat_ofInt, h, Nat.and_two_pow_sub_one_eq_mod]
  show IntKind.i64.wrap ((BitVec.ofInt 64 n &&& BitVec.ofInt 64 65535).toNat : Nat) = n % 65536
  rw [key, IntKind.wrap_i64]
  omega
theorem bits63 (n : Int) : bits .and .i64 n 63 = n % 64 := by
  have h : (BitVec.ofInt 64 63).toNat = 2 ^ 6 - 1 := by decide
  have key : (BitVec.ofInt 64 n &&& BitVec.ofInt 64 63).toNat = (n % ((2 ^ 64 : Nat) : Int)).toNat % 2 ^ 6 := by
    rw [BitVec.toNat_and, BitVec.toNat_ofInt, h, Nat.and_two_pow_sub_one_eq_mod]
  show IntKind.i64.wrap ((BitVec.ofInt 64 n &&& BitVec.ofInt 64 63).toNat : Nat) = n % 64
  rw [key, IntKind.wrap_i64]
  omega
def blkC (c : Int) : Blk := if c = 0 then zeroBlk else content c
theorem full_blkC (c : Int) : Full (blkC c) := by unfold blkC; split; exact full_zero; exact full_content c
theorem settleF (lo : List (Int × Nw)) : ∀ (i : Nat) (G : Int → Option Blk) (k : Int), (lo.map (·.1)).Nodup → settleG resF i G lo k = match look lo k with | some x => some x.of | none => G k := by
  induction lo with
  | nil => intro i G k _; rfl
  | cons a r ih =>
    intro i G k h
    rw [List.map_cons, List.nodup_cons] at h
    show settleG resF (i + 1) (putG G a.1 a.2.of) r k = _
    rw [ih (i + 1) _ k h.2]
    by_cases e : a.1 = k
    · have hn : look r k = none := by
        cases hl : look r k with
        | none => rfl
        | some x => exact absurd (List.mem_map_of_mem (f := (·.1)) (look_mem hl)) (e ▸ h.1)
      have hc : look (a :: r) k = some a.2 := by
        unfold look
        rw [List.find?_cons_of_pos (by simpa using e)]
        rfl
      rw [hn, hc]
      show putG G a.1 a.2.of k = some a.2.of
      unfold putG
      rw [if_pos e.symm]
    · have hc : look (a :: r) k = look r k := by
        unfold look
        rw [List.find?_cons_of_neg (by simpa using e)]
      rw [hc]
      have : putG G a.1 a.2.of k = G k := by unfold putG; rw [if_neg (fun h => e h.symm)]
      rw [this]
theorem settleG_append (res : Nat → Blk → Blk → Blk) (b : Int × Nw) : ∀ (l : List (Int × Nw)) (i : Nat) (G : Int → Option Blk), settleG res i G (l ++ [b]) = putG (settleG res i G l) b.1 (res (i + l.length) ((settleG res i G l b.1).getD zeroBlk) b.2.of)
  | [], i, G => rfl
  | a :: r, i, G => by
    show settleG res (i + 1) _ (r ++ [b]) = _
    rw [settleG_append res b r (i + 1)]
    show _ = putG (settleG res (i + 1) _ r) b.1 _
    rw [show i + 1 + r.length = i + (a :: r).length by simp; omega]
    rfl
/-- a block's content behind the first t of the loose ones -/
def wantB (res : Nat → Blk → Blk → Blk) (G : Int → Option Blk) (lo : List (Int × Nw)) (k : Int) (t : Nat) : Blk := ((settleG res 0 G (lo.take t)) k).getD zeroBlk
theorem wantB_zero (res : Nat → Blk → Blk → Blk) (G : Int → Option Blk) (lo : List (Int × Nw)) (k : Int) : wantB res G lo k 0 = (G k).getD zeroBlk := rfl
theorem wantB_other (res : Nat → Blk → Blk → Blk) (G : Int → Option Blk) (lo : List (Int × Nw)) (k : Int) (t : Nat) (ht : t < lo.length) (h : lo[t].1 ≠ k) : wantB res G lo k (t + 1) = wantB res G lo k t := by
  unfold wantB
  rw [List.take_succ_eq_append_getElem ht, settleG_append]
  unfold putG
  rw [if_neg (fun e => h e.symm)]
theorem wantB_this (res : Nat → Blk → Blk → Blk) (G : Int → Option Blk) (lo : List (Int × Nw)) (k : Int) (t : Nat) (ht : t < lo.length) (h : lo[t].1 = k) : wantB res G lo k (t + 1) = res t (wantB res G lo k t) lo[t].2.of := by
  unfold wantB
  rw [List.take_succ_eq_append_getElem ht, settleG_append]
  unfold putG
  rw [if_pos h.symm, h]
  have : (lo.take t).length = t := by rw [List.length_take]; omega
  rw [this, Nat.zero_add]
  rfl
theorem wantB_all (res : Nat → Blk → Blk → Blk) (G : Int → Option Blk) (lo : List (Int × Nw)) (k : Int) : wantB res G lo k lo.length = newest (settleG res 0 G lo) [] k := by
  unfold wantB
  rw [List.take_length]
  rfl
structure CrP (s : St) (F N : Nat → Int) : Prop where
  rdy : Rdy s
  keys : (s.lo.map (·.1)).Nodup
  new : ∀ y x, look s.lo y = some x → ∃ k : Nat, k < 8 ∧ y = k ∧ x.of = content (N k)
  fl : ∀ k : Nat, k < 8 → (s.G k).getD zeroBlk = blkC (F k)
  old : ∀ k : Nat, k < 8 → look s.lo k = none → N k = F k
  pos : ∀ k : Nat, look s.lo k ≠ none → N k ≠ 0
theorem crP_new : CrP (newS 8) (fun _ => 0) (fun _ => 0) := ⟨rdy_new, List.Pairwise.nil, fun y x h => (by cases h), fun k _ => rfl, fun _ _ _ => rfl, fun k h => absurd rfl h⟩
set_option maxRecDepth 100000 in
theorem CrP.write {s : St} {F N : Nat → Int} (h : CrP s F N) {k : Nat} (hk : k < 8) {c : Int} (hc : c ≠ 0) : CrP (putS (callS s) k (content c)) F (fun i => if i = k then c else N i) := by
  have hl : ∀ y, look (putS (callS s) k (content c)).lo y = if y = k then some ⟨content c, sinceP s.lo k s.d.clock⟩ else look s.lo y := fun y => look_putL s.lo k (content c) s.d.clock y
  refine ⟨⟨h.rdy.up, h.rdy.arm, h.rdy.n8⟩, ?_, ?_, h.fl, ?_, ?_⟩
  · show ((putL s.lo k (content c) s.d.clock).map (·.1)).Nodup
    rw [putL_keys]
    cases hs : (look s.lo k).isSome with
    | true => rw [if_pos rfl]; exact h.keys
    | false =>
      rw [if_neg (by simp)]
      have := look_none hs
      rw [List.nodup_append]
      refine ⟨h.keys, by simp, ?_⟩
      intro a ha b hb
      simp only [List.mem_singleton] at hb
      subst hb
      exact fun e => this (e ▸ ha)
  · intro y x hx
    rw [hl] at hx
    by_cases e : y = k
    · rw [if_pos e] at hx
      have hx' := congrArg Nw.of (Option.some.inj hx)
      refine ⟨k, hk, e, ?_⟩
      rw [if_pos rfl]
      exact hx'.symm
    · rw [if_neg e] at hx
      obtain ⟨k', h1, h2, h3⟩ := h.new y x hx
      exact ⟨k', h1, h2, by rw [if_neg (fun e' => e (by rw [h2, e']))]; exact h3⟩
  · intro k' hk' hn
    rw [hl] at hn
    by_cases e : (k' : Int) = k
    · rw [if_pos e] at hn; cases hn
    · rw [if_neg e] at hn
      show (if k' = k then c else N k') = F k'
      rw [if_neg (fun e' => e (by rw [e']))]
      exact h.old k' hk' hn
  · intro k' hn
    show (if k' = k then c else N k') ≠ 0
    split
    · exact hc
    · next e =>
      rw [hl, if_neg (fun e' => e (by omega))] at hn
      exact h.pos k' hn
theorem CrP.flush {s : St} {F N : Nat → Int} (h : CrP s F N) : CrP (settleS (callS s)) N N := by
  refine ⟨⟨h.rdy.up, h.rdy.arm, h.rdy.n8⟩, List.Pairwise.nil, fun y x hx => (by cases hx), ?_, fun _ _ _ => rfl, fun k hn => absurd rfl hn⟩
  intro k hk
  show (settleG resF 0 s.G s.lo k).getD zeroBlk = _
  rw [settleF s.lo 0 s.G k h.keys]
  cases hl : look s.lo k with
  | none =>
    show (s.G k).getD zeroBlk = _
    rw [h.fl k hk, h.old k hk hl]
  | some x =>
    obtain ⟨k', h1, h2, h3⟩ := h.new k x hl
    have : k = k' := by omega
    subst this
    show x.of = _
    unfold blkC
    rw [if_neg (h.pos k (by rw [hl]; simp)), h3]
theorem CrP.at {s : St} {F N : Nat → Int} (h : CrP s F N) (t : Nat) (ht : t < s.lo.length) : ∃ k : Nat, k < 8 ∧ s.lo[t].1 = k ∧ s.lo[t].2.of = content (N k) := by
  have hm : (s.lo[t].1, s.lo[t].2) ∈ s.lo := List.getElem_mem ht
  exact h.new _ _ (look_of_mem h.keys hm)
end Go.Proofs.Ytedcpmkfanlicaa
