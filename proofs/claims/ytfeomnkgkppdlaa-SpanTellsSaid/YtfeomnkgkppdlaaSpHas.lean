/- key.In, the closure of Has, slices.IndexFunc and slices.ContainsFunc with it, and Has, by their contracts; a key among spans as a number among intervals. -/
import Derived.Test.YtfeomnkgkppdlaaSpOf
set_option linter.unusedVariables false
set_option linter.unusedSimpArgs false
namespace Go.Proofs.Ytfeomnkgkppdlaa
open Go Go.RowKit Go.Sort Go.Lib
attribute [local go_sem ↓] run_size24 run_size49 run_size25
attribute [local simp high] run_size24x run_size49x run_size25x

def hasS (k : Key) (s : Sp) : Bool := decide (0 ≤ cmpK k s.fr) && (s.en || decide (cmpK k s.to < 0))
def hasL (k : Key) (ss : List Sp) : Bool := ss.any (hasS k)
theorem hasS_iff (k : Key) (s : Sp) : hasS k s = true ↔ (sN s).1 ≤ nK k ∧ nK k < (sN s).2 := by
  have h1 := cmpN_lt k s.fr
  have h2 := cmpN_lt k s.to
  have h3 := nK_lt k
  have e1 : (sN s).1 = nK s.fr := rfl
  rw [e1]
  unfold hasS
  simp only [Bool.and_eq_true, Bool.or_eq_true, decide_eq_true_eq]
  have e0 : 0 ≤ cmpK k s.fr ↔ nK s.fr ≤ nK k := by omega
  rw [e0]
  cases he : s.en with
  | true =>
    have e2 : (sN s).2 = 256 ^ 24 := by simp [sN, toB, he, nB]
    rw [e2]
    simp only [true_or, and_true]
    exact ⟨fun h => ⟨h, h3⟩, fun h => h.1⟩
  | false =>
    have e2 : (sN s).2 = nK s.to := by simp [sN, toB, he, nB]
    rw [e2]
    simp only [Bool.false_eq_true, false_or]
    rw [h2]
theorem hasL_iff (k : Key) (ss : List Sp) : hasL k ss = true ↔ mem (nK k) (NL ss) := by
  unfold hasL mem NL
  rw [List.any_eq_true]
  constructor
  · rintro ⟨s, hs, h⟩
    exact ⟨sN s, List.mem_map_of_mem hs, (hasS_iff k s).1 h⟩
  · rintro ⟨p, hp, h⟩
    obtain ⟨s, hs, rfl⟩ := List.mem_map.1 hp
    exact ⟨s, hs, (hasS_iff k s).2 h⟩

theorem cb_three : ∀ a b : List UInt8, Lib.compareBytes a b = -1 ∨ Lib.compareBytes a b = 0 ∨ Lib.compareBytes a b = 1
  | [], [] => .inr (.inl rfl)
  | [], _ :: _ => .inl rfl
  | _ :: _, [] => .inr (.inr rfl)
  | a :: ar, b :: br => by
    unfold Lib.compareBytes
    split
    · exact .inl rfl
    · split
      · exact .inr (.inr rfl)
      · exact cb_three ar br
theorem cmpK_three (a b : Key) : cmpK a b = -1 ∨ cmpK a b = 0 ∨ cmpK a b = 1 := cb_three _ _
set_option maxHeartbeats 4000000 in
theorem in_any (s : Sp) (k : Key) (w : World) :
    Calls Try.prog 39 #[spanV s, keyV k] w fun e w' => e = .returned (.bool (hasS k s)) ∧ Ext w w' := by
  have mixed := Try.mixed
  have k1 : ¬ K24 = 0 := by decide
  have k2 : ¬ K49 = 0 := by decide
  obtain ⟨C1, C2⟩ := two_new w (spanCells s) (keyCells k) 28 26
  have C2' := C2
  have en : ∀ n os, (grow (((w.alloc (.cells (spanCells s).toArray 28)).alloc (.cells (keyCells k).toArray 26)).drewN n) os).cell? ⟨w.heap.size, 48, none⟩ = some (.bool s.en) := fun n os => by
    have := spanEn (C1.grow n os); rwa [Nat.zero_add] at this
  have T1 := spanTo C1
  rw [Nat.zero_add] at T1
  have hc : ∀ n os, Calls Try.prog 34 #[.slice (some ⟨w.heap.size + 1, 0, none⟩) 24 24, .slice (some ⟨w.heap.size, 0, none⟩) 24 24] (grow (((w.alloc (.cells (spanCells s).toArray 28)).alloc (.cells (keyCells k).toArray 26)).drewN n) os)
      fun e w' => e = .returned (.int .i64 (cmpK k s.fr)) ∧ Ext (grow (((w.alloc (.cells (spanCells s).toArray 28)).alloc (.cells (keyCells k).toArray 26)).drewN n) os) w' := by
    intro n os
    have h := keysCompare k s.fr (w.heap.size + 1) 0 24 w.heap.size 0 24 _ (C2.grow n os) ((spanFr C1).grow n os)
    exact h.mono fun e w' ⟨he, hw⟩ => ⟨he, by rw [← hw]; exact Ext.refl _⟩
  have hd : ∀ n os, Calls Try.prog 34 #[.slice (some ⟨w.heap.size + 1, 0, none⟩) 24 24, .slice (some ⟨w.heap.size, 24, none⟩) 24 24] (grow (((w.alloc (.cells (spanCells s).toArray 28)).alloc (.cells (keyCells k).toArray 26)).drewN n) os)
      fun e w' => e = .returned (.int .i64 (cmpK k s.to)) ∧ Ext (grow (((w.alloc (.cells (spanCells s).toArray 28)).alloc (.cells (keyCells k).toArray 26)).drewN n) os) w' := by
    intro n os
    have h := keysCompare k s.to (w.heap.size + 1) 0 24 w.heap.size 24 24 _ (C2.grow n os) (T1.grow n os)
    exact h.mono fun e w' ⟨he, hw⟩ => ⟨he, by rw [← hw]; exact Ext.refl _⟩
  have HG : Hid (∀ n os (o : Nat) (c : Int), (o = 0 ∧ c = cmpK k s.fr) ∨ (o = 24 ∧ c = cmpK k s.to) → Calls Try.prog 34 #[.slice (some ⟨w.heap.size + 1, 0, none⟩) 24 24, .slice (some ⟨w.heap.size, o, none⟩) 24 24] (grow (((w.alloc (.cells (spanCells s).toArray 28)).alloc (.cells (keyCells k).toArray 26)).drewN n) os)
      fun e w' => e = .returned (.int .i64 c) ∧ Ext (grow (((w.alloc (.cells (spanCells s).toArray 28)).alloc (.cells (keyCells k).toArray 26)).drewN n) os) w') := fun n os o c h => by
    rcases h with ⟨rfl, rfl⟩ | ⟨rfl, rfl⟩
    · exact hc n os
    · exact hd n os
  have E0 : Hid (Ext w ((w.alloc (.cells (spanCells s).toArray 28)).alloc (.cells (keyCells k).toArray 26))) := ((Ext.refl w).alloc _).alloc _
  clear hc hd C1 C2 C2' T1
  have R : Hid (hasS k s = (decide (0 ≤ cmpK k s.fr) && (s.en || decide (cmpK k s.to < 0)))) := rfl
  have t1 := cmpK_three k s.fr
  have t2 := cmpK_three k s.to
  unfold spanV keyV
  generalize s.en = en0 at *
  generalize cmpK k s.fr = c1 at *
  generalize cmpK k s.to = c2 at *
  generalize hasS k s = r at *
  go_enter Try.func39, Try.ntmps39
  go_wp2
  generalize (w.alloc (.cells (spanCells s).toArray 28)).alloc (.cells (keyCells k).toArray 26) = W0 at *
  generalize w.heap.size = B at *
  rcases t1 with rfl | rfl | rfl
  · replace R : Hid (r = false) := by show _ = _; rw [R.out]; rfl
    clear t2
    refine wp_region_quiet_grown (by assumption) (by kernel_rfl) ?_
    repeat (with_reducible refine wpQuiet_step ?_; intro K hK; first | (go_simp; refine hK _ ?_; clear hK K) | (go_simp; simp only [undef, reduceCtorEq, ↓reduceIte]; refine hK _ ?_; clear hK K) | (go_simp; apply Exists.intro; refine ⟨fun _ => ?_, hK _ ?_⟩; (go_at_call 34; exact Calls.grown_ext (HG.out _ _ _ _ (by first | exact .inl ⟨rfl, rfl⟩ | exact .inr ⟨rfl, rfl⟩))); clear hK K))
    with_reducible refine wpQuiet_nil ?_
    intro _ hw'
    obtain ⟨⟨nq, osq⟩, hw''⟩ := hw'
    subst hw''
    go_wp2
    go_ret
    exact ⟨by rw [R.out]; rfl, E0.out.grow nq osq⟩
  all_goals
    cases en0
    · rcases t2 with rfl | rfl | rfl
      · replace R : Hid (r = true) := by show _ = _; rw [R.out]; rfl
        refine wp_region_quiet_grown (by assumption) (by kernel_rfl) ?_
        repeat (with_reducible refine wpQuiet_step ?_; intro K hK; first | (go_simp; refine hK _ ?_; clear hK K) | (go_simp; simp only [undef, reduceCtorEq, ↓reduceIte]; refine hK _ ?_; clear hK K) | (go_simp; apply Exists.intro; refine ⟨fun _ => ?_, hK _ ?_⟩; (go_at_call 34; exact Calls.grown_ext (HG.out _ _ _ _ (by first | exact .inl ⟨rfl, rfl⟩ | exact .inr ⟨rfl, rfl⟩))); clear hK K))
        with_reducible refine wpQuiet_nil ?_
        intro _ hw'
        obtain ⟨⟨nq, osq⟩, hw''⟩ := hw'
        subst hw''
        go_wp2
        go_ret
        exact ⟨by rw [R.out]; rfl, E0.out.grow nq osq⟩
      all_goals
        replace R : Hid (r = false) := by show _ = _; rw [R.out]; rfl
        refine wp_region_quiet_grown (by assumption) (by kernel_rfl) ?_
        repeat (with_reducible refine wpQuiet_step ?_; intro K hK; first | (go_simp; refine hK _ ?_; clear hK K) | (go_simp; simp only [undef, reduceCtorEq, ↓reduceIte]; refine hK _ ?_; clear hK K) | (go_simp; apply Exists.intro; refine ⟨fun _ => ?_, hK _ ?_⟩; (go_at_call 34; exact Calls.grown_ext (HG.out _ _ _ _ (by first | exact .inl ⟨rfl, rfl⟩ | exact .inr ⟨rfl, rfl⟩))); clear hK K))
        with_reducible refine wpQuiet_nil ?_
        intro _ hw'
        obtain ⟨⟨nq, osq⟩, hw''⟩ := hw'
        subst hw''
        go_wp2
        go_ret
        exact ⟨by rw [R.out]; rfl, E0.out.grow nq osq⟩
    · replace R : Hid (r = true) := by show _ = _; rw [R.out]; rfl
      clear t2
      refine wp_region_quiet_grown (by assumption) (by kernel_rfl) ?_
      repeat (with_reducible refine wpQuiet_step ?_; intro K hK; first | (go_simp; refine hK _ ?_; clear hK K) | (go_simp; simp only [undef, reduceCtorEq, ↓reduceIte]; refine hK _ ?_; clear hK K) | (go_simp; apply Exists.intro; refine ⟨fun _ => ?_, hK _ ?_⟩; (go_at_call 34; exact Calls.grown_ext (HG.out _ _ _ _ (by first | exact .inl ⟨rfl, rfl⟩ | exact .inr ⟨rfl, rfl⟩))); clear hK K))
      with_reducible refine wpQuiet_nil ?_
      intro _ hw'
      obtain ⟨⟨nq, osq⟩, hw''⟩ := hw'
      subst hw''
      go_wp2
      go_ret
      exact ⟨by rw [R.out]; rfl, E0.out.grow nq osq⟩

set_option maxHeartbeats 400000 in
theorem has1_any (s : Sp) (k : Key) (g : Nat) (w : World) (hk : CellsAt w g 0 (keyCells k)) :
    Calls Try.prog 38 #[spanV s, .pointer (some ⟨g, 0, none⟩)] w fun e w' => e = .returned (.bool (hasS k s)) ∧ Ext w w' := by
  have mixed := Try.mixed
  have k1 : ¬ K24 = 0 := by decide
  have k2 : ¬ K49 = 0 := by decide
  have l0 := span_load s w
  have l1 := (hk.alloc (.cells (spanCells s).toArray 28)).load Try.prog K24 (keyCells_length k)
  have ci := Lib.hid (in_any s k (w.alloc (.cells (spanCells s).toArray 28)))
  clear hk
  unfold spanV keyV at ci
  unfold spanV
  go_enter Try.func38, Try.ntmps38
  go_wp2_with fail
  refine ci.out.mono ?_
  rintro e w1 ⟨rfl, X1⟩
  have X1 : Hid (Ext w w1) := ((Ext.refl w).alloc _).trans X1
  clear ci l0 l1
  go_wp2
  go_ret
  exact ⟨rfl, X1.out⟩

/-- how many of the first stand before the first that has the key -/
def firstHas (k : Key) (ss : List Sp) : Int := match ss.findIdx? (hasS k) with | some i => i | none => -1
theorem firstHas_iff (k : Key) (ss : List Sp) : decide (0 ≤ firstHas k ss) = hasL k ss := by
  unfold firstHas hasL
  cases h : ss.findIdx? (hasS k) with
  | none =>
    rw [List.findIdx?_eq_none_iff] at h
    have : ss.any (hasS k) = false := by rw [List.any_eq_false]; intro x hx; rw [h x hx]; decide
    rw [this]; decide
  | some i =>
    rw [List.findIdx?_eq_some_iff_getElem] at h
    obtain ⟨hi, h1, _⟩ := h
    have : ss.any (hasS k) = true := by rw [List.any_eq_true]; exact ⟨_, List.getElem_mem hi, h1⟩
    rw [this]
    simp

set_option maxHeartbeats 1000000 in
theorem index_has (k : Key) (g : Nat) (v : Value) (ss : List Sp) (w : World) (hs : SpansIn w v ss) (hk : CellsAt w g 0 (keyCells k)) (hn : ss.length ≤ 4611686018427387904) :
    Calls Try.prog 46 #[v, .func (.func 38) #[] #[.pointer (some ⟨g, 0, none⟩)]] w fun e w' => e = .returned (.int .i64 (firstHas k ss)) ∧ Ext w w' := by
  have mixed := Try.mixed
  have k1 : ¬ K24 = 0 := by decide
  have k2 : ¬ K49 = 0 := by decide
  have HS := Lib.hid hs
  have HK := Lib.hid hk
  obtain ⟨a, cap, rfl⟩ := hs.length
  clear hs hk
  generalize hlen : ss.length = n at hn HS ⊢
  have HN := Lib.hid hlen
  clear hlen
  go_enter Try.func46, Try.ntmps46
  go_wp2
  go_loopg [8] n (fun kx s8 wr => ∃ i : Nat, s8 = .int .i64 i ∧ i ≤ n ∧ n - i ≤ kx ∧ Aside (∀ j (h : j < ss.length), j < i → hasS k ss[j] = false) ∧ Aside (Ext w wr))
  case atStart => exact ⟨0, rfl, Nat.zero_le _, by omega, fun j h hj => absurd hj (by omega), Ext.refl _⟩
  case round =>
    obtain ⟨i, rfl, hin, hg, A, X⟩ := hrel
    by_cases hlt : i < n
    · have hi : i < ss.length := by have := HN.out; omega
      obtain ⟨b, off, d, e1, L1⟩ := HS.out.loads (by omega)
      simp only [Value.slice.injEq] at e1
      obtain ⟨rfl, h1, rfl⟩ := e1
      clear h1
      obtain ⟨s, hs⟩ : ∃ s, s = ss[i] := ⟨_, rfl⟩
      have l1 : Sem.run Try.prog (loadCellsFrom ⟨b, off + i * K49, none⟩ 0 K49 #[]) wr = .ok (spanCells s).toArray wr := by
        rw [hs]; exact (X.out.cells (L1 i hi)).load _ K49 (spanCells_length _)
      have cl := Lib.hid (has1_any s k g wr (X.out.cells HK.out))
      unfold spanV at cl
      have HE := Lib.hid hs
      clear hs L1
      go_wp2_with fail
      refine cl.out.mono ?_
      rintro e w1 ⟨rfl, X1⟩
      have X1 := Lib.hid X1
      clear cl
      cases he : hasS k s with
      | true =>
        have R : Hid (firstHas k ss = (i : Int)) := by
          show firstHas k ss = _
          unfold firstHas
          rw [show ss.findIdx? (hasS k) = some i from by
            rw [List.findIdx?_eq_some_iff_getElem]
            exact ⟨hi, by rw [← HE.out]; exact he, fun j hj => by rw [A.out j (by omega) hj]; decide⟩]
        go_wp2
        go_ret
        exact ⟨retI R.out.symm, X.out.trans X1.out⟩
      | false =>
        go_wp2
        go_roundg (n - (i + 1))
        case measure => omega
        case rel =>
          refine ⟨i + 1, by go_num, by omega, Nat.le_refl _, fun j h hj => ?_, X.out.trans X1.out⟩
          by_cases e : j = i
          · subst e; rw [← HE.out]; exact he
          · exact A.out j h (by omega)
    · have R : Hid (firstHas k ss = -1) := by
        show firstHas k ss = _
        unfold firstHas
        rw [show ss.findIdx? (hasS k) = none from by
          rw [List.findIdx?_eq_none_iff]
          intro x hx
          obtain ⟨j, hj, rfl⟩ := List.getElem_of_mem hx
          exact A.out j hj (by have := HN.out; omega)]
      go_wp2
      go_ret
      exact ⟨retI R.out.symm, X.out⟩

set_option maxHeartbeats 400000 in
theorem contains_has (k : Key) (g : Nat) (v : Value) (ss : List Sp) (w : World) (hs : SpansIn w v ss) (hk : CellsAt w g 0 (keyCells k)) (hn : ss.length ≤ 1000000) :
    Calls Try.prog 37 #[v, .func (.func 38) #[] #[.pointer (some ⟨g, 0, none⟩)]] w fun e w' => e = .returned (.bool (hasL k ss)) ∧ Ext w w' := by
  have ci := Lib.hid (index_has k g v ss w hs hk (by omega))
  clear hs hk hn
  have R := Lib.hid (firstHas_iff k ss)
  generalize firstHas k ss = c at ci R
  generalize hasL k ss = r at R ⊢
  go_enter Try.func37, Try.ntmps37
  go_wp2_with fail
  refine ci.out.mono ?_
  rintro e w1 ⟨rfl, X1⟩
  clear ci
  have X1 := Lib.hid X1
  go_wp2
  go_ret
  exact ⟨by rw [← R.out]; rfl, X1.out⟩

set_option maxHeartbeats 400000 in
theorem has_of (k : Key) (v : Value) (ss : List Sp) (w : World) (hs : SpansIn w v ss) (hn : ss.length ≤ 1000000) :
    Calls Try.prog 19 #[v, keyV k] w fun e w' => e = .returned (.bool (hasL k ss)) ∧ Ext w w' := by
  have ci := Lib.hid (contains_has k w.heap.size v ss (w.alloc (.cells (keyCells k).toArray 26)) (hs.ext ((Ext.refl w).alloc _)) (cellsAt_new w (keyCells k) 26) hn)
  clear hs hn
  unfold keyV
  go_enter Try.func19, Try.ntmps19
  go_wp2_with fail
  refine ci.out.mono ?_
  rintro e w1 ⟨rfl, X1⟩
  have X1 : Hid (Ext w w1) := ((Ext.refl w).alloc _).trans X1
  clear ci
  go_wp2
  go_ret
  exact ⟨rfl, X1.out⟩
end Go.Proofs.Ytfeomnkgkppdlaa
