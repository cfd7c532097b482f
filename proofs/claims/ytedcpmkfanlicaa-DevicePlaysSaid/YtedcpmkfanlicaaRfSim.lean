/- A device and the reference's: what both say, and that each call keeps it. -/
import Derived.Test.YtedcpmkfanlicaaRfWrite
set_option linter.unusedVariables false
set_option linter.unusedSimpArgs false
namespace Go.Proofs.Ytedcpmkfanlicaa
open Go Go.RowKit Go.Sort Go.Lib Go.Maps Go.Deep
structure Sim (s : St) (r : Rf) (m : Nat) : Prop where
  n : r.n = s.d.n
  down : r.down = s.d.down
  calls : r.calls = s.d.calls
  armed : r.armed = s.d.armed
  mask : r.mask = s.d.mask
  torn : r.torn = s.d.torn
  bytes : r.bytes = s.d.bytes
  lo : r.lo = s.lo.map (·.1)
  find : FindOk r.L s.G s.lo
  sized : Sized r.L
  len : r.L.length ≤ m
  nb : s.d.n ≤ 4294967296
/-- what a device's being so tells -/
structure Okay (s : St) (m : Nat) : Prop where
  keys : (s.lo.map (·.1)).Nodup
  fullF : ∀ k b, s.G k = some b → Full b
  fullL : ∀ x ∈ s.lo, Full x.2.of
  calls : 0 ≤ s.d.calls ∧ s.d.calls ≤ m
  mask : u64 s.d.mask
  armed : 0 ≤ s.d.armed ∧ s.d.armed ≤ 9223372036854775807
  lo : s.lo.length ≤ m
theorem DvIs.okay {w : World} {L : Loc} {s : St} {m : Nat} (H : DvIs w L s m) : Okay s m := by
  obtain ⟨nf, nl, D, a, b⟩ := H.dev
  exact ⟨D.keys, D.fullF, D.fullL, H.calls, H.mask, H.armed, by omega⟩
theorem Sim.mono {s : St} {r : Rf} {m n : Nat} (h : Sim s r m) (hn : m ≤ n) : Sim s r n := ⟨h.n, h.down, h.calls, h.armed, h.mask, h.torn, h.bytes, h.lo, h.find, h.sized, Nat.le_trans h.len hn, h.nb⟩
theorem sim_new (blocks : Int) : Sim (newS blocks) (newR blocks) 0 := ⟨rfl, rfl, rfl, rfl, rfl, rfl, rfl, rfl, findOk_nil, fun b hb => (by cases hb), Nat.le_refl _, by show min (max blocks 1) 4294967296 ≤ _; omega⟩
theorem sized_nought : noughtS.size = 512 := by unfold noughtS; rw [strB_size]; exact full_zero.1
theorem crashL_sized {mask torn : Int} {b : Nat} (hb : b ≤ 512) : ∀ (lo : List Int) (i : Nat) (L : List Rb), Sized L → Sized (crashL (resS mask torn b) i L lo) ∧ (crashL (resS mask torn b) i L lo).length = L.length
  | [], i, L, h => ⟨h, rfl⟩
  | k :: r, i, L, h => by
    cases ha : atR L k with
    | none =>
      have e : crashL (resS mask torn b) i L (k :: r) = crashL (resS mask torn b) (i + 1) L r := by
        show crashL _ (i + 1) (match atR L k with | some j => putR L j (resS mask torn b i (L[j]?.getD default).fl (L[j]?.getD default).nw) | none => L) r = _
        rw [ha]
      rw [e]
      exact crashL_sized hb r (i + 1) L h
    | some j =>
      rw [crashL_step ha]
      obtain ⟨hj, _⟩ := atR_lt ha
      have hz := h L[j] (List.getElem_mem hj)
      have hs : Sized (putR L j (resS mask torn b i (L[j]?.getD default).fl (L[j]?.getD default).nw)) := fun x hx => by
        rcases List.mem_or_eq_of_mem_set hx with h' | h'
        · exact h x h'
        · subst h'
          rw [getD_lt hj]
          have := resS_size (mask := mask) (torn := torn) hb i hz.1 hz.2
          exact ⟨this, this⟩
      obtain ⟨h1, h2⟩ := crashL_sized hb r (i + 1) _ hs
      exact ⟨h1, h2.trans List.length_set⟩
section
variable {s : St} {r : Rf} {m : Nat}
theorem Sim.has (h : Sim s r m) : ∀ k ∈ r.lo, ∃ j, atR r.L k = some j := fun k hk => by
  rw [h.lo] at hk
  have hf := h.find k
  have hl := (look_keys s.lo k).1 hk
  rw [Option.isSome_map] at hl
  cases ha : atR r.L k with
  | none => rw [ha] at hf; rw [hf.2] at hl; cases hl
  | some j => exact ⟨j, rfl⟩
theorem Sim.fit (h : Sim s r m) (o : Okay s m) (hm : m ≤ 1000000) : Fit r :=
  ⟨by rw [h.calls]; have := o.calls; omega, by rw [h.armed]; exact o.armed, by rw [h.mask]; exact o.mask, h.has, h.sized⟩
theorem Sim.may (h : Sim s r m) (k : Int) : mayR r k = mayS s k := by unfold mayR mayS; rw [h.down, h.n]
theorem Sim.crash (h : Sim s r m) (o : Okay s m) (hd : s.d.down = false) (mask torn bytes : Int) (hm : u64 mask) :
    Sim (crashS s mask torn bytes) { r with down := true, armed := 0, lo := [], L := crashL (resS mask torn (toBytes bytes)) 0 r.L r.lo } m := by
  have hc := crashL_sized (mask := mask) (torn := torn) (toBytes_le bytes) r.lo 0 r.L h.sized
  rw [crashS_up hd]
  refine ⟨h.n, rfl, h.calls, rfl, h.mask, h.torn, h.bytes, rfl, ?_, hc.1, by show (crashL _ 0 r.L r.lo).length ≤ m; rw [hc.2]; exact h.len, h.nb⟩
  show FindOk (crashL _ 0 r.L r.lo) _ []
  rw [h.lo]
  exact crash_ok hm (toBytes_le bytes) s.lo 0 r.L s.G h.find o.keys o.fullF o.fullL
theorem Sim.start (h : Sim s r m) : Sim (startS s) { r with down := false } m := ⟨h.n, rfl, h.calls, h.armed, h.mask, h.torn, h.bytes, h.lo, h.find, h.sized, h.len, h.nb⟩
theorem Sim.arm (h : Sim s r m) (n mask torn bytes : Int) : Sim (armS s n mask torn bytes) { r with armed := max n 0, mask := mask, torn := torn, bytes := bytes } m := ⟨h.n, h.down, h.calls, rfl, rfl, rfl, rfl, h.lo, h.find, h.sized, h.len, h.nb⟩
/-- a call that is counted -/
theorem Sim.count (h : Sim s r m) (o : Okay s m) : (s.d.down = true ∧ countS s = (s, true) ∧ countR r = (r, true)) ∨
    (s.d.down = false ∧ (countS s).2 = false ∧ (countR r).2 = true ∧ Sim (countS s).1 (countR r).1 m) ∨
    (s.d.down = false ∧ (countS s).2 = true ∧ (countR r).2 = false ∧ Sim (countS s).1 (countR r).1 m ∧ (countS s).1.d.down = false ∧ (countS s).1.lo = s.lo ∧ (countS s).1.G = s.G) := by
  cases hd : s.d.down with
  | true =>
    left
    exact ⟨rfl, countS_true hd, by unfold countR; rw [if_pos (h.down.trans hd)]⟩
  | false =>
    right
    have hr : r.down = false := h.down.trans hd
    by_cases h0 : s.d.armed ≤ 0
    · right
      have e1 : countS s = ({ s with d := { s.d with calls := s.d.calls + 1 } }, true) := by unfold countS; rw [hd, if_neg (by simp), if_pos h0]
      have e2 : countR r = ({ r with calls := r.calls + 1 }, false) := by unfold countR; rw [hr, if_neg (by simp), if_pos (by rw [h.armed]; exact h0)]
      rw [e1, e2]
      exact ⟨rfl, rfl, rfl, ⟨h.n, h.down, by show r.calls + 1 = s.d.calls + 1; rw [h.calls], h.armed, h.mask, h.torn, h.bytes, h.lo, h.find, h.sized, h.len, h.nb⟩, hd, rfl, rfl⟩
    · by_cases h1 : s.d.armed = 1
      · left
        have e1 := countS_fall hd h1
        have e2 : countR r = ({ r with calls := r.calls + 1, down := true, armed := 0, lo := [], L := crashL (resS r.mask r.torn (toBytes r.bytes)) 0 r.L r.lo }, true) := by unfold countR; rw [hr, if_neg (by simp), if_neg (by rw [h.armed]; exact h0), if_pos (by rw [h.armed]; exact h1)]
        have hc := crashL_sized (mask := r.mask) (torn := r.torn) (toBytes_le r.bytes) r.lo 0 r.L h.sized
        rw [e1, e2]
        refine ⟨rfl, rfl, rfl, ⟨h.n, rfl, by show r.calls + 1 = s.d.calls + 1; rw [h.calls], rfl, h.mask, h.torn, h.bytes, rfl, ?_, hc.1, by show (crashL _ 0 r.L r.lo).length ≤ m; rw [hc.2]; exact h.len, h.nb⟩⟩
        show FindOk (crashL _ 0 r.L r.lo) _ []
        rw [h.lo, h.mask, h.torn, h.bytes]
        exact crash_ok o.mask (toBytes_le s.d.bytes) s.lo 0 r.L s.G h.find o.keys o.fullF o.fullL
      · right
        have e1 : countS s = ({ s with d := { s.d with calls := s.d.calls + 1, armed := s.d.armed - 1 } }, true) := by unfold countS; rw [hd, if_neg (by simp), if_neg h0, if_neg h1]
        have e2 : countR r = ({ r with calls := r.calls + 1, armed := r.armed - 1 }, false) := by unfold countR; rw [hr, if_neg (by simp), if_neg (by rw [h.armed]; exact h0), if_neg (by rw [h.armed]; exact h1)]
        rw [e1, e2]
        exact ⟨rfl, rfl, rfl, ⟨h.n, h.down, by show r.calls + 1 = s.d.calls + 1; rw [h.calls], by show r.armed - 1 = s.d.armed - 1; rw [h.armed], h.mask, h.torn, h.bytes, h.lo, h.find, h.sized, h.len, h.nb⟩, hd, rfl, rfl⟩
theorem Sim.flush (h : Sim s r m) (o : Okay s m) : (flushS s).2 = (flushR r).2 ∧ Sim (flushS s).1 (flushR r).1 (m + 1) := by
  rcases h.count o with ⟨hd, e1, e2⟩ | ⟨hd, c1, c2, hs⟩ | ⟨hd, c1, c2, hs, hd', hl, hG⟩
  · rw [flushS_down hd]
    unfold flushR
    rw [e2]
    exact ⟨rfl, h.mono (by omega)⟩
  · unfold flushS flushR
    rw [hd, if_neg (by simp), if_pos c1, if_pos c2]
    exact ⟨rfl, hs.mono (by omega)⟩
  · unfold flushS flushR
    rw [hd, if_neg (by simp), if_neg (by rw [c1]; simp), if_neg (by rw [c2]; simp)]
    refine ⟨rfl, ⟨hs.n, hs.down, hs.calls, hs.armed, hs.mask, hs.torn, hs.bytes, rfl, ?_, ?_, ?_, hs.nb⟩⟩
    · exact flush_ok hs.find (by rw [hl]; exact o.keys)
    · intro b hb
      obtain ⟨b', hb', rfl⟩ := List.mem_map.1 hb
      exact ⟨(hs.sized b' hb').2, (hs.sized b' hb').2⟩
    · show (flushL (countR r).1.L).length ≤ m + 1
      unfold flushL
      rw [List.length_map]
      have := hs.len
      omega
theorem writeL_len (L : List Rb) (k : Int) (s : ByteArray) : (writeL L k s).length ≤ L.length + 1 := by
  unfold writeL
  split
  · rw [List.length_set]; omega
  · simp
theorem writeL_sized {L : List Rb} (h : Sized L) (k : Int) {s : ByteArray} (hs : s.size = 512) : Sized (writeL L k s) := by
  unfold writeL
  split
  · next j hj =>
    obtain ⟨hl, _⟩ := atR_lt hj
    intro x hx
    rcases List.mem_or_eq_of_mem_set hx with h' | h'
    · exact h x h'
    · subst h'
      rw [getD_lt hl]
      exact ⟨(h L[j] (List.getElem_mem hl)).1, hs⟩
  · intro x hx
    rcases List.mem_append.1 hx with h' | h'
    · exact h x h'
    · simp only [List.mem_singleton] at h'
      subst h'
      exact ⟨sized_nought, hs⟩
theorem putL_keysO (lo : List (Int × Nw)) (k : Int) (b : Blk) (c : Int) : (putL lo k b c).map (·.1) = putO (lo.map (·.1)) k := by
  rw [putL_keys]
  unfold putO
  have hk := known_all lo k
  by_cases h : k ∈ lo.map (·.1)
  · rw [if_pos h, if_pos (by rw [← hk]; exact decide_eq_true h)]
  · rw [if_neg h, if_neg (by rw [← hk, decide_eq_false h]; simp)]
theorem Sim.write (h : Sim s r m) (o : Okay s m) (k : Int) {b : Blk} (fb : Full b) : (writeS s k b).2 = (writeR r k (strB b)).2 ∧ Sim (writeS s k b).1 (writeR r k (strB b)).1 (m + 1) := by
  have hz : (strB b).size = 512 := by rw [strB_size]; exact fb.1
  rcases h.count o with ⟨hd, e1, e2⟩ | ⟨hd, c1, c2, hs⟩ | ⟨hd, c1, c2, hs, hd', hl, hG⟩
  · rw [writeS_down hd]
    unfold writeR
    rw [e2]
    exact ⟨rfl, h.mono (by omega)⟩
  · unfold writeS writeR
    rw [if_pos c1, if_pos c2]
    exact ⟨rfl, hs.mono (by omega)⟩
  · have w1 : writeS s k b = if mayS (countS s).1 k = 0 then (putS (countS s).1 k b, 0) else ((countS s).1, mayS (countS s).1 k) := by unfold writeS; rw [if_neg (by rw [c1]; simp)]
    have w2 : writeR r k (strB b) = if k < 0 ∨ (countR r).1.n ≤ k ∨ (strB b).size ≠ 512 then ((countR r).1, 1) else ({ (countR r).1 with L := writeL (countR r).1.L k (strB b), lo := putO (countR r).1.lo k }, 0) := by unfold writeR; rw [if_neg (by rw [c2]; simp)]
    by_cases hk : k < 0 ∨ (countS s).1.d.n ≤ k
    · have e : mayS (countS s).1 k = 1 := by unfold mayS; rw [hd', if_neg (by simp), if_pos hk]
      rw [if_pos (by rw [hs.n]; rcases hk with h | h; exact .inl h; exact .inr (.inl h))] at w2
      rw [e, if_neg (by decide)] at w1
      rw [w1, w2]
      exact ⟨rfl, hs.mono (by omega)⟩
    · have e : mayS (countS s).1 k = 0 := by unfold mayS; rw [hd', if_neg (by simp), if_neg hk]
      rw [if_neg (by rw [hs.n]; rintro (h | h | h); exact hk (.inl h); exact hk (.inr h); exact h hz)] at w2
      rw [e, if_pos rfl] at w1
      rw [w1, w2]
      refine ⟨rfl, ⟨hs.n, hs.down, hs.calls, hs.armed, hs.mask, hs.torn, hs.bytes, ?_, ?_, writeL_sized hs.sized k hz, ?_, hs.nb⟩⟩
      · show putO (countR r).1.lo k = (putL (countS s).1.lo k b (countS s).1.d.clock).map (·.1)
        rw [putL_keysO, hs.lo]
      · exact write_ok_ref hs.find k b _
      · have := writeL_len (countR r).1.L k (strB b)
        have := hs.len
        show (writeL _ _ _).length ≤ m + 1
        omega
/-- a write of what is no block -/
def shortS (s : St) (k : Int) : St × Int :=
  if (countS s).2 = false then ((countS s).1, 11) else if mayS (countS s).1 k = 0 then ((countS s).1, 1) else ((countS s).1, mayS (countS s).1 k)
theorem Sim.short (h : Sim s r m) (o : Okay s m) (k : Int) {t : ByteArray} (ht : t.size ≠ 512) : (shortS s k).2 = (writeR r k t).2 ∧ Sim (shortS s k).1 (writeR r k t).1 (m + 1) := by
  rcases h.count o with ⟨hd, e1, e2⟩ | ⟨hd, c1, c2, hs⟩ | ⟨hd, c1, c2, hs, hd', hl, hG⟩
  · have e : shortS s k = (s, 11) := by
      unfold shortS mayS
      rw [e1]
      simp [hd]
    rw [e]
    unfold writeR
    rw [e2]
    exact ⟨rfl, h.mono (by omega)⟩
  · unfold shortS writeR
    rw [if_pos c1, if_pos c2]
    exact ⟨rfl, hs.mono (by omega)⟩
  · have w1 : shortS s k = if mayS (countS s).1 k = 0 then ((countS s).1, 1) else ((countS s).1, mayS (countS s).1 k) := by unfold shortS; rw [if_neg (by rw [c1]; simp)]
    have w2 : writeR r k t = ((countR r).1, 1) := by
      have w3 : writeR r k t = if k < 0 ∨ (countR r).1.n ≤ k ∨ t.size ≠ 512 then ((countR r).1, 1) else ({ (countR r).1 with L := writeL (countR r).1.L k t, lo := putO (countR r).1.lo k }, 0) := by unfold writeR; rw [if_neg (by rw [c2]; simp)]
      rw [w3, if_pos (.inr (.inr ht))]
    have e : mayS (countS s).1 k = 0 ∨ mayS (countS s).1 k = 1 := by unfold mayS; rw [hd', if_neg (by simp)]; split <;> simp
    rw [w2]
    rcases e with e | e
    · rw [e, if_pos rfl] at w1; rw [w1]; exact ⟨rfl, hs.mono (by omega)⟩
    · rw [e, if_neg (by decide)] at w1; rw [w1]; exact ⟨rfl, hs.mono (by omega)⟩
theorem Sim.newest (h : Sim s r m) (k : Int) : newestR r.L k = strB (newest s.G s.lo k) := h.find.newest k
end
end Go.Proofs.Ytedcpmkfanlicaa
