/- A map from numbers, told by what it holds at each number. -/
import Derived.Test.YtedcpmkfanlicaaDvBase
import Derived.Lib.SlKeysI
set_option linter.unusedVariables false
set_option linter.unusedSimpArgs false
namespace Go.Proofs.Ytedcpmkfanlicaa
open Go Go.RowKit Go.Sort Go.Lib Go.Maps

def rdV (v : Value) : Option (DataW Value × List MemPlace) := some (.held v, [])
def wfK (k : Int) : Prop := (Lit.int .i64 k).wf = true
theorem wfK_iff (k : Int) : wfK k ↔ -9223372036854775808 ≤ k ∧ k ≤ 9223372036854775807 := by
  simp [wfK, Lit.wf, IntKind.min, IntKind.max, IntKind.signed, IntKind.bits]
abbrev lk (k : Int) : Lit := .int .i64 k
theorem lk_ne {a b : Int} (h : a ≠ b) : lk a ≠ lk b := fun e => h (by simpa [lk] using e)

/-- block b is a map, made by no more than n stores, that holds f -/
def MapIs (w : World) (b n : Nat) (f : Int → Option Value) : Prop :=
  ∃ D : DataW Value, w.ownsMap Try.prog 3 rdV b n D ∧ (∀ k, has D (lk k) = (f k).isSome) ∧ ∀ k v z, f k = some v → D.atKey (lk k) z = .held v

def upd (f : Int → Option Value) (k : Int) (v : Option Value) : Int → Option Value := fun x => if x = k then v else f x
theorem upd_same (f : Int → Option Value) (k : Int) (v : Option Value) : upd f k v k = v := by simp [upd]
theorem upd_other (f : Int → Option Value) (k x : Int) (v : Option Value) (h : x ≠ k) : upd f k v x = f x := by simp [upd, h]

theorem K3 : Keyed Try.prog 3 := int_keyed Try.underlying3
theorem key3 {k : Int} (h : wfK k) : keyOf Try.prog 3 (.int .i64 k) = some (lk k) := keyOf_int_mk Try.underlying3 h

section
variable {w : World} {b n : Nat} {f : Int → Option Value}

theorem mapIs_made (w : World) : MapIs (w.alloc (.map #[] 0)) w.heap.size 0 (fun _ => none) :=
  ⟨.map [], World.ownsMap_made w _ _ _, fun k => rfl, fun k v z h => by cases h⟩
theorem MapIs.lt (h : MapIs w b n f) : b < w.heap.size := by obtain ⟨D, h, _⟩ := h; exact h.lt
theorem MapIs.mono (h : MapIs w b n f) {m : Nat} (hm : n ≤ m) : MapIs w b m f := by obtain ⟨D, h, r⟩ := h; exact ⟨D, h.mono hm, r⟩
theorem MapIs.of_block (h : MapIs w b n f) {w' : World} (hb : w'.heap[b]? = w.heap[b]?) : MapIs w' b n f := by
  obtain ⟨D, ⟨es, clock, h1, h2⟩, r⟩ := h
  exact ⟨D, ⟨es, clock, hb.trans h1, h2⟩, r⟩
theorem MapIs.chg (h : MapIs w b n f) {w' : World} {S : Nat → Prop} (X : Chg S w w') (hS : ¬ S b) : MapIs w' b n f := h.of_block (X.block b h.lt hS)
theorem MapIs.ext (h : MapIs w b n f) {w' : World} (X : Ext w w') : MapIs w' b n f := h.chg (X.chg fun _ => False) id
theorem MapIs.wf (h : MapIs w b n f) {k : Int} (hk : (f k).isSome = true) : wfK k := by
  obtain ⟨D, h, h1, _⟩ := h
  obtain ⟨es, rfl, hko⟩ := h.keysOf
  have := h1 k
  rw [hk, has_eq, List.any_eq_true] at this
  obtain ⟨p, hp, hs⟩ := this
  obtain ⟨v, hv⟩ := hko p hp
  obtain ⟨x, _, hx, hw⟩ := keyOf_i64 Try.underlying3 hv
  rw [hx] at hs
  have : x = k := by simpa [Lit.sameKey] using hs
  subst this
  exact hw
/-- the value that a look-up gives -/
theorem MapIs.look (h : MapIs w b n f) {k : Int} (hk : wfK k) {t e : TypeId} (ht : Try.prog.underlying t = some (.map 3 e)) {z : Value} (hz : (zeroValue e).run Try.prog w = .ok z w) :
    (Instr.lookup t (.map (some b)) (.int .i64 k) false).run Try.prog w = .ok ((f k).getD z) w := by
  obtain ⟨D, h, h1, h2⟩ := h
  obtain ⟨v, ps, hr, hv⟩ := h.lookup K3 ht hz (zd := .held z) (zp := []) rfl (key3 hk)
  rw [hr]
  simp only [rdV, Option.some.injEq, Prod.mk.injEq] at hv
  cases hf : f k with
  | none =>
    have hn : has D (lk k) = false := by rw [h1, hf]; rfl
    rw [atKey_of_not_has hn] at hv
    have : v = z := by simpa using hv.1
    rw [this]; rfl
  | some u =>
    rw [h2 k u _ hf] at hv
    have : v = u := by simpa using hv.1
    rw [this]; rfl
theorem MapIs.look_ok (h : MapIs w b n f) {k : Int} (hk : wfK k) {t e : TypeId} (ht : Try.prog.underlying t = some (.map 3 e)) {z : Value} (hz : (zeroValue e).run Try.prog w = .ok z w) :
    (Instr.lookup t (.map (some b)) (.int .i64 k) true).run Try.prog w = .ok (.tuple #[(f k).getD z, .bool (f k).isSome]) w := by
  obtain ⟨D, h, h1, h2⟩ := h
  obtain ⟨v, ps, hr, hv⟩ := h.look_ok K3 ht hz (zd := .held z) (zp := []) rfl (key3 hk)
  rw [hr, h1]
  simp only [rdV, Option.some.injEq, Prod.mk.injEq] at hv
  cases hf : f k with
  | none =>
    have hn : has D (lk k) = false := by rw [h1, hf]; rfl
    rw [atKey_of_not_has hn] at hv
    have : v = z := by simpa using hv.1
    rw [this]; rfl
  | some u =>
    rw [h2 k u _ hf] at hv
    have : v = u := by simpa using hv.1
    rw [this]; rfl
theorem MapIs.store (h : MapIs w b n f) {k : Int} (hk : wfK k) {t e : TypeId} (ht : Try.prog.underlying t = some (.map 3 e)) (hn : n < maxLen) (v : Value) :
    ∃ w', (Instr.mapUpdate t (.map (some b)) (.int .i64 k) v).run Try.prog w = .ok () w' ∧ MapIs w' b (n + 1) (upd f k (some v)) ∧ Chg (fun i => i = b) w w' := by
  obtain ⟨D, h, h1, h2⟩ := h
  obtain ⟨w', hr, h3, h4⟩ := h.update (val := v) (d := .held v) (ps := []) K3 ht hn (key3 hk) rfl
  refine ⟨w', hr, ⟨_, h3, fun x => ?_, fun x u z hx => ?_⟩, h4.chg.mono fun i _ e => by simpa using e.symm⟩
  · by_cases e : x = k
    · subst e; rw [has_put_same h.isMap (show WideAt.IsKeyLit (lk _) from trivial), upd_same]; rfl
    · rw [has_put_other (lk_ne e), upd_other _ _ _ _ e, h1]
  · by_cases e : x = k
    · subst e
      rw [upd_same] at hx
      rw [atKey_put_same h.isMap (show WideAt.IsKeyLit (lk _) from trivial)]
      simpa using hx
    · rw [upd_other _ _ _ _ e] at hx
      rw [atKey_put_other (lk_ne e)]
      exact h2 x u z hx
theorem MapIs.drop (h : MapIs w b n f) {k : Int} (hk : wfK k) {t e : TypeId} (ht : Try.prog.underlying t = some (.map 3 e)) (ty : TypeId) :
    ∃ w', (Builtin.delete_ #[t, 3] ty #[.map (some b), .int .i64 k]).run Try.prog w = .ok (.tuple #[]) w' ∧ MapIs w' b n (upd f k none) ∧ Chg (fun i => i = b) w w' := by
  obtain ⟨D, h, h1, h2⟩ := h
  obtain ⟨w', hr, h3, h4⟩ := h.drop K3 ht (key3 hk) ty
  refine ⟨w', hr, ⟨_, h3, fun x => ?_, fun x u z hx => ?_⟩, h4.grown.chg.mono fun i _ e => by simpa using e.symm⟩
  · by_cases e : x = k
    · subst e; rw [has_del_same, upd_same]; rfl
    · rw [has_del_other (lk_ne e), upd_other _ _ _ _ e, h1]
  · by_cases e : x = k
    · subst e; rw [upd_same] at hx; cases hx
    · rw [upd_other _ _ _ _ e] at hx
      rw [atKey_del_other (lk_ne e)]
      exact h2 x u z hx
/-- the keys, each once -/
theorem MapIs.keys (h : MapIs w b n f) : ∃ D : DataW Value, w.ownsMap Try.prog 3 rdV b n D ∧ Maps.size D = (intKeys D).length ∧ (intKeys D).Nodup ∧ ∀ x, x ∈ intKeys D ↔ (f x).isSome = true := by
  obtain ⟨D, h, h1, h2⟩ := h
  obtain ⟨es, rfl, hp, _⟩ := h.entries K3
  obtain ⟨es', e', hko⟩ := h.keysOf
  obtain rfl : es = es' := by simpa using e'
  have hk : ∀ p ∈ es, ∃ x, p.1 = lk x := fun p hp => by
    obtain ⟨v, hv⟩ := hko p hp
    obtain ⟨x, _, hx, _⟩ := keyOf_i64 Try.underlying3 hv
    exact ⟨x, hx⟩
  refine ⟨_, h, by simp [Maps.size, intKeys], ?_, fun x => ?_⟩
  · show (es.map fun p => _root_.Go.intOf p.1).Nodup
    refine List.pairwise_map.2 (hp.imp_of_mem fun {p q} hp' hq' hne e => hne ?_)
    obtain ⟨a, ha⟩ := hk p hp'
    obtain ⟨b, hb⟩ := hk q hq'
    rw [ha, hb] at e ⊢
    exact congrArg _ e
  · rw [← h1, has_eq, List.any_eq_true]
    show x ∈ es.map (fun p => _root_.Go.intOf p.1) ↔ _
    rw [List.mem_map]
    constructor
    · rintro ⟨p, hp', rfl⟩
      obtain ⟨a, ha⟩ := hk p hp'
      exact ⟨p, hp', by rw [ha]; simp [Lit.sameKey, _root_.Go.intOf]⟩
    · rintro ⟨p, hp', hs⟩
      obtain ⟨a, ha⟩ := hk p hp'
      rw [ha] at hs
      exact ⟨p, hp', by rw [ha]; simpa [Lit.sameKey, _root_.Go.intOf] using hs⟩
/-- how many it holds -/
theorem MapIs.len (h : MapIs w b n f) {t e : TypeId} (ht : Try.prog.underlying t = some (.map 3 e)) (ty : TypeId) {ks : List Int} (hn : ks.Nodup) (hm : ∀ x, x ∈ ks ↔ (f x).isSome = true) :
    (Builtin.len_ #[t] ty #[.map (some b)]).run Try.prog w = .ok (.int .i64 (ks.length : Int)) w := by
  obtain ⟨D, ho, hs, hd, hx⟩ := h.keys
  have hp : (intKeys D).Perm ks := (List.perm_ext_iff_of_nodup hd hn).2 fun x => by rw [hx, hm]
  rw [ho.len ht ty, hs, hp.length_eq]
end
end Go.Proofs.Ytedcpmkfanlicaa
