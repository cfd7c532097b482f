/- The reference's with: a rising row of bounds with one more. -/
import Derived.Test.YtfeomnkgkppdlaaTlHas
import Derived.Maps.AppendAt
import Derived.Laws.AppendOwnNone
set_option linter.unusedVariables false
set_option linter.unusedSimpArgs false
namespace Go.Proofs.Ytfeomnkgkppdlaa
open Go Go.RowKit Go.Sort Go.Lib Go.Deep
/-- a slice of bounds, as strings -/
structure StrsIn (w : World) (v : Value) (xs : List Bd) : Prop where
  shape : ∃ a c, v = .slice a xs.length c ∧ xs.length ≤ c ∧ c ≤ maxLen ∧ (0 < xs.length → ∃ b o, a = some ⟨b, o, none⟩ ∧ CellsAt w b o (xs.map fun x => .string (strBd x))) ∧ (a = none → xs.length = 0 ∧ c = 0)
def strsV (xs : List Bd) : List Value := xs.map fun x => .string (strBd x)
theorem strsV_length (xs : List Bd) : (strsV xs).length = xs.length := by simp [strsV]
theorem strsV_append (a b : List Bd) : strsV (a ++ b) = strsV a ++ strsV b := by simp [strsV]
theorem strsV_one (xs : List Bd) : ∀ v ∈ strsV xs, v.oneCell' = true := fun v hv => by obtain ⟨x, _, rfl⟩ := List.mem_map.1 hv; rfl
theorem StrsIn.chg {w w' : World} {S : Nat → Prop} {v : Value} {xs : List Bd} (h : StrsIn w v xs) (X : Chg S w w') (hS : ∀ i, i < w.heap.size → ¬ S i) : StrsIn w' v xs := by
  obtain ⟨a, c, e, h1, h2, h3, h4⟩ := h
  refine ⟨a, c, e, h1, h2, fun hp => ?_, h4⟩
  obtain ⟨b, o, e', hc⟩ := h3 hp
  exact ⟨b, o, e', X.cells hc (hS b (hc.lt (by intro e; have := congrArg List.length e; simp at this; rw [this] at hp; simp at hp)))⟩
theorem strs_own {w : World} {B n : Nat} {v : Value} {xs : List Bd} (h : w.ownsRow B 9 1 v n (strsV xs)) : StrsIn w v xs := by
  have hl : xs.length = n := by have := h.1; rw [strsV_length, Nat.mul_one] at this; exact this
  rcases owns_shape h with ⟨e, h0⟩ | ⟨g, cap, e, _, _, h1, h2⟩
  · exact ⟨none, 0, by rw [e, hl, h0], by omega, by unfold maxLen; omega, fun hp => by omega, fun _ => ⟨by omega, rfl⟩⟩
  · exact ⟨some ⟨g, 0, none⟩, cap, by rw [e, hl], by omega, h2, fun _ => ⟨g, 0, rfl, owns_cells h e⟩, fun e => by cases e⟩
/-- a rising row with one more -/
def insB : List Bd → Bd → List Bd
  | [], s => [s]
  | x :: r, s => if nB x < nB s then x :: insB r s else if nB x = nB s then x :: r else s :: x :: r
theorem insB_at : ∀ (xs : List Bd) (s : Bd) (t : Nat), t ≤ xs.length → (∀ i (hi : i < xs.length), i < t → nB xs[i] < nB s) → (∀ (ht : t < xs.length), ¬ nB xs[t] < nB s) →
    insB xs s = if h : t < xs.length then (if nB xs[t] = nB s then xs else xs.take t ++ [s] ++ xs.drop t) else xs ++ [s]
  | [], s, t, ht, _, _ => by rw [dif_neg (by simp)]; rfl
  | x :: r, s, 0, ht, _, h2 => by
    have h : ¬ nB x < nB s := h2 (by simp)
    rw [dif_pos (by simp)]
    show (if nB x < nB s then x :: insB r s else if nB x = nB s then x :: r else s :: x :: r) = _
    rw [if_neg h]
    rfl
  | x :: r, s, t + 1, ht, h1, h2 => by
    have h0 : nB x < nB s := h1 0 (by simp) (by omega)
    have ih := insB_at r s t (by simpa using ht) (fun i hi hit => h1 (i + 1) (by simpa using hi) (by omega)) (fun ht' => h2 (by simpa using ht'))
    show (if nB x < nB s then x :: insB r s else if nB x = nB s then x :: r else s :: x :: r) = _
    rw [if_pos h0, ih]
    by_cases hlt : t < r.length
    · rw [dif_pos hlt, dif_pos (by simpa using hlt)]
      show x :: (if nB r[t] = nB s then r else r.take t ++ [s] ++ r.drop t) = if nB r[t] = nB s then x :: r else x :: r.take t ++ [s] ++ r.drop t
      split <;> rfl
    · rw [dif_neg hlt, dif_neg (by simpa using hlt)]
      rfl
theorem step_append_run {P : Program} {ops : Array Oper} {o : Oper} {a : Act} {w : World} {K : Act → World → Prop} {Q : Exit → Act → World → Prop} {E : Prop}
    (hg : o.guard = none) (s x : Operand) (t : TypeId) (hop : o.op = Op.call { callee := Callee.builtin Builtin.append, args := #[s, x], argTypes := #[t, t] })
    (v1 v2 : Value) (hs : a.eval s = v1) (hx : a.eval x = v2) {v' : Value} {w' : World} (hrun : (Builtin.append_ #[t, t] o.type #[v1, v2]).run P w = .ok v' w') (hK : K (a.put o.dst v') w') :
    if Region.wanted o (yielded ops a.tmps) = true then Oper.wp P o a w K Q else E := by
  have hw : Region.wanted o (yielded ops a.tmps) = true := by simp [Region.wanted, hg]
  rw [if_pos hw]
  unfold Oper.wp
  simp [execOp, hop, resolve, invoke, builtin, hs, hx, hrun, Result.andThen]
  exact hK
theorem info9 : (Try.prog.info? 9).map (fun i => (i.zero, i.size, i.bytes)) = some (some (.string ⟨#[]⟩), 1, 16) := by kernel_rfl
/-- append of bounds onto a row of the call's own -/
theorem app_strs {W : World} {B n : Nat} {v : Value} {xs : List Value} (own : W.ownsRow B 9 1 v n xs) (hB : B ≤ W.heap.size) (ao : Option Addr) (m c : Nat) (news : List Value) (hl : news.length = m) (hn : ao = none → m = 0 ∧ c = 0)
    (hc : ∀ ad, ao = some ad → ∀ j u, news[j]? = some u → W.cell? (ad.add j) = some u) (h1 : ∀ u ∈ news, u.oneCell' = true) (hb : n + m ≤ 100000) :
    ∃ v' W', (Builtin.append_ #[55, 55] 55 #[v, .slice ao m c]).run Try.prog W = .ok v' W' ∧ W'.ownsRow B 9 1 v' (n + m) (xs ++ news) ∧ Chg (fun i => v.ownBlock = some i) W W' := by
  obtain ⟨i0, hi, hz0, hz1, hz2⟩ := info_parts info9
  cases ao with
  | none =>
    obtain ⟨rfl, rfl⟩ := hn rfl
    have e0 : news = [] := List.eq_nil_of_length_eq_zero hl
    subst e0
    exact ⟨v, W, run_append_owned_none (P := Try.prog) (w := W) B 55 55 9 i0 1 Try.underlying55 hi v n xs own, by simpa using own, Chg.refl _ _⟩
  | some ad =>
    obtain ⟨v', W', h1', h2, h3, _, _⟩ := run_append_own_at (P := Try.prog) W B 55 55 9 i0 (.string ⟨#[]⟩) 1 16 Try.underlying55 hi hz0 hz1 hz2 rfl (by decide) v n xs own ad m c news (by rw [hl]; omega) (hc ad rfl) h1 (by unfold maxLen; omega) (by omega) hB
    exact ⟨v', W', h1', h2, h3.chg⟩
set_option maxHeartbeats 4000000 in
set_option maxRecDepth 100000 in
theorem withR_any (v : Value) (xs : List Bd) (s : Bd) (w : World) (hs : StrsIn w v xs) (hn : xs.length ≤ 1000) : Calls Try.prog 51 #[v, .string (strBd s)] w fun e w' => ∃ v', e = .returned v' ∧ StrsIn w' v' (insB xs s) ∧ Chg (fun _ => False) w w' := by
  have mixed := Try.mixed
  have HS := Lib.hid hs
  obtain ⟨a, c, rfl, hc1, hc2, hc3, hc4⟩ := hs
  have H3 := Lib.hid hc3
  have H4 := Lib.hid hc4
  generalize hlen : xs.length = n at hn HS H4 hc1 ⊢
  have HN := Lib.hid hlen
  clear hlen hc3 hc4
  go_enter Try.func51, Try.ntmps51
  go_upto_block 0 with fail
  go_cut [5] (fun s5 wx => ∃ t : Nat, s5 = .int .i64 t ∧ t ≤ n ∧ Aside (∀ i (hi : i < xs.length), i < t → nB xs[i] < nB s) ∧ Aside (∀ (ht : t < xs.length), ¬ nB xs[t] < nB s) ∧ w = wx)
  case first =>
    go_wp2
    go_loopg [5] n (fun kx s5 wr => ∃ t : Nat, s5 = .int .i64 t ∧ t ≤ n ∧ n - t ≤ kx ∧ Aside (∀ i (hi : i < xs.length), i < t → nB xs[i] < nB s) ∧ w = wr)
    case atStart => exact ⟨0, rfl, Nat.zero_le _, by omega, fun i hi h => by omega, rfl⟩
    case round =>
      obtain ⟨t, rfl, ht, hg, B, rfl⟩ := hrel
      have z0 : (0 : Int) ≤ (t : Int) := by omega
      by_cases hlt : t < n
      · have z1 : (t : Int) < (n : Int) := by omega
        have htl : t < xs.length := by rw [HN.out]; exact hlt
        obtain ⟨b, o, rfl, C⟩ := H3.out (by omega)
        have c1 : w.cell? ⟨b, o + t, none⟩ = some (.string (strBd xs[t])) := C t _ (by simp [htl])
        have l1 := strBd_less xs[t] s
        by_cases hh : nB xs[t] < nB s
        · have B2 : Hid (∀ i (hi : i < xs.length), i < t + 1 → nB xs[i] < nB s) := fun i hi h => by
            by_cases e : i = t
            · subst e; exact hh
            · exact B.out i hi (by omega)
          rw [decide_eq_true hh] at l1
          generalize strBd xs[t] = sx at c1 l1
          clear hh C
          go_wp2
          go_roundg (n - (t + 1))
          case measure => omega
          case rel => exact ⟨t + 1, by go_num, by omega, Nat.le_refl _, B2.out, rfl⟩
        · have B2 : Hid (∀ (ht : t < xs.length), ¬ nB xs[t] < nB s) := fun _ => hh
          rw [decide_eq_false hh] at l1
          generalize strBd xs[t] = sx at c1 l1
          clear hh C
          go_wp2_with fail
          go_meet
          exact ⟨t, rfl, ht, B.out, B2.out, rfl⟩
      · have z1 : ¬ (t : Int) < (n : Int) := by omega
        go_wp2_with fail
        go_meet
        exact ⟨t, rfl, ht, B.out, fun h => absurd h (by rw [HN.out]; exact hlt), rfl⟩
  case rest =>
    obtain ⟨t, rfl, ht, B1, B2, hw⟩ := hcut
    subst hw
    have INS := Lib.hid (insB_at xs s t (by rw [HN.out]; exact ht) B1.out B2.out)
    have z0 : (0 : Int) ≤ (t : Int) := by omega
    have z3 : (t : Int) ≤ (n : Int) := by omega
    by_cases heq : ∃ h : t < xs.length, nB xs[t] = nB s
    · obtain ⟨htl, heq⟩ := heq
      have z1 : (t : Int) < (n : Int) := by have := HN.out; omega
      obtain ⟨b, o, rfl, C⟩ := H3.out (by omega)
      have c1 : w.cell? ⟨b, o + t, none⟩ = some (.string (strBd xs[t])) := C t _ (by simp [htl])
      have l1 := strBd_same xs[t] s
      rw [decide_eq_true heq] at l1
      have E : Hid (insB xs s = xs) := by show _ = _; rw [INS.out, dif_pos htl, if_pos heq]
      generalize strBd xs[t] = sx at c1 l1
      clear heq C htl
      go_wp2
      go_ret
      rw [E.out]
      exact ⟨_, rfl, HS.out, Chg.refl _ _⟩
    · have E : Hid (insB xs s = xs.take t ++ [s] ++ xs.drop t) := by
        show _ = _
        rw [INS.out]
        by_cases htl : t < xs.length
        · rw [dif_pos htl, if_neg (fun h => heq ⟨htl, h⟩)]
        · rw [dif_neg htl, List.take_of_length_le (by omega), List.drop_of_length_le (by omega), List.append_nil]
      go_upto_region 4 with fail
      go_cut [31] (fun s31 wx => s31 = .bool false ∧ w = wx)
      case first =>
        by_cases hlt : t < n
        · have z1 : (t : Int) < (n : Int) := by omega
          have htl : t < xs.length := by rw [HN.out]; exact hlt
          obtain ⟨b, o, rfl, C⟩ := H3.out (by omega)
          have c1 : w.cell? ⟨b, o + t, none⟩ = some (.string (strBd xs[t])) := C t _ (by simp [htl])
          have l1 := strBd_same xs[t] s
          rw [decide_eq_false (fun h => heq ⟨htl, h⟩)] at l1
          generalize strBd xs[t] = sx at c1 l1
          clear heq C htl
          go_wp2_with fail
          go_meet
          exact ⟨rfl, rfl⟩
        · have z1 : ¬ (t : Int) < (n : Int) := by omega
          clear heq
          go_wp2_with fail
          go_meet
          exact ⟨rfl, rfl⟩
      case rest =>
        obtain ⟨rfl, rfl⟩ := hcut
        clear heq INS B1 B2
        by_cases hn0 : n = 0
        · subst hn0
          obtain rfl : t = 0 := by omega
          have ex : xs = [] := List.eq_nil_of_length_eq_zero HN.out
          have EX : Hid (insB xs s = [s]) := by rw [ex]; rfl
          have DONE : Hid (∀ W v, W.ownsRow w.heap.size 9 1 v (0 + 0 + 1 + 0) ([] ++ [] ++ strsV [s] ++ []) → StrsIn W v (insB xs s)) := fun W v h => by
            rw [EX.out]
            exact strs_own (B := w.heap.size) (n := 1) (xs := [s]) h
          have CHG : Hid (∀ W, Chg (fun i => w.heap.size ≤ i) w W → Chg (fun _ => False) w W) := fun W X => X.mono (fun i hi h => by omega)
          clear ex E
          have zc : (0 : Int) ≤ (c : Int) := by omega
          cases a with
          | none =>
            obtain ⟨_, h0⟩ := H4.out rfl
            subst h0
            have APP1 : Hid (∀ W, Chg (fun i => w.heap.size ≤ i) w W → ∀ n' v xs', W.ownsRow w.heap.size 9 1 v n' xs' → n' ≤ 1000 → ∃ v' W', (Builtin.append_ #[55, 55] 55 #[v, .slice none 0 0]).run Try.prog W = .ok v' W' ∧ W'.ownsRow w.heap.size 9 1 v' (n' + 0) (xs' ++ []) ∧ Chg (fun i => w.heap.size ≤ i) w W' ∧ (∀ g vs, v.ownBlock ≠ some g → CellsAt W g 0 vs → CellsAt W' g 0 vs)) := fun W X n' v xs' own hb => by
              obtain ⟨v', W', h1, h2, h3⟩ := app_strs own X.size none 0 0 [] rfl (by first | exact fun _ => ⟨rfl, rfl⟩ | exact fun e => by cases e) (fun ad e j u hj => by simp at hj) (fun u hu => by cases hu) (by omega)
              exact ⟨v', W', h1, h2, X.trans h3 (fun i hi e => by have := (own.lt i e).1; omega), fun g vs hg hc => h3.cells hc hg⟩
            have APP2 : Hid (∀ W, Chg (fun i => w.heap.size ≤ i) w W → ∀ n' v xs', W.ownsRow w.heap.size 9 1 v n' xs' → n' ≤ 1000 → ∀ g, CellsAt W g 0 [.string (strBd s)] → ∃ v' W', (Builtin.append_ #[55, 55] 55 #[v, .slice (some ⟨g, 0, none⟩) 1 1]).run Try.prog W = .ok v' W' ∧ W'.ownsRow w.heap.size 9 1 v' (n' + 1) (xs' ++ strsV [s]) ∧ Chg (fun i => w.heap.size ≤ i) w W') := fun W X n' v xs' own hb g hg => by
              obtain ⟨v', W', h1, h2, h3⟩ := app_strs own X.size (some ⟨g, 0, none⟩) 1 1 (strsV [s]) rfl (fun e => by cases e) (fun ad e j u hj => by cases e; rw [Addr.add_lit]; exact hg j u hj) (strsV_one _) (by omega)
              exact ⟨v', W', h1, h2, X.trans h3 (fun i hi e => by have := (own.lt i e).1; omega)⟩
            have APP3 : Hid (∀ W, Chg (fun i => w.heap.size ≤ i) w W → ∀ n' v xs', W.ownsRow w.heap.size 9 1 v n' xs' → n' ≤ 2000 → ∃ v' W', (Builtin.append_ #[55, 55] 55 #[v, .slice none 0 0]).run Try.prog W = .ok v' W' ∧ W'.ownsRow w.heap.size 9 1 v' (n' + 0) (xs' ++ []) ∧ Chg (fun i => w.heap.size ≤ i) w W') := fun W X n' v xs' own hb => by
              obtain ⟨v', W', h1, h2, h3⟩ := app_strs own X.size none 0 0 [] rfl (by first | exact fun _ => ⟨rfl, rfl⟩ | exact fun e => by cases e) (fun ad e j u hj => by simp at hj) (fun u hu => by cases hu) (by omega)
              exact ⟨v', W', h1, h2, X.trans h3 (fun i hi e => by have := (own.lt i e).1; omega)⟩
            go_upto_region 6 with fail
            refine wp_region_held_drew (S := fun _ => True) (by kernel_rfl) trivial (fun _ => ?_)
            obtain ⟨w1, hw1⟩ : ∃ W, W = w.drew := ⟨_, rfl⟩
            rw [← hw1]
            have X1 : Chg (fun i => w.heap.size ≤ i) w w1 := by rw [hw1]; exact (Ext.refl w).drew.chg _
            clear hw1
            refine wpAnyH_take (i := 1) (oi := _) (v := ?vy39) rfl (by kernel_rfl) (by kernel_rfl) (by kernel_rfl) (fun _ _ _ h => h) (Or.inl ⟨by rfl, ?yy39⟩) trivial ?ry39
            case yy39 => (intro w hSw; go_simp; try with_reducible rfl)
            (try simp only [List.getElem_toArray, List.getElem_cons_succ, List.getElem_cons_zero, Act.put, List.setIfInBounds_toArray, List.set_cons_zero, List.set_cons_succ])
            refine wpAnyH_take (i := 2) (oi := _) (v := ?vy40) rfl (by kernel_rfl) (by kernel_rfl) (by kernel_rfl) (fun _ _ _ h => h) (Or.inl ⟨by rfl, ?yy40⟩) trivial ?ry40
            case yy40 => (intro w hSw; go_simp; try with_reducible rfl)
            (try simp only [List.getElem_toArray, List.getElem_cons_succ, List.getElem_cons_zero, Act.put, List.setIfInBounds_toArray, List.set_cons_zero, List.set_cons_succ])
            refine wpAnyH_take (i := 3) (oi := _) (v := ?vy41) rfl (by kernel_rfl) (by kernel_rfl) (by kernel_rfl) (fun _ _ _ h => h) (Or.inl ⟨by rfl, ?yy41⟩) trivial ?ry41
            case yy41 => (intro w hSw; go_simp; try with_reducible rfl)
            (try simp only [List.getElem_toArray, List.getElem_cons_succ, List.getElem_cons_zero, Act.put, List.setIfInBounds_toArray, List.set_cons_zero, List.set_cons_succ])
            refine wpAnyH_take (i := 5) (oi := _) (v := ?vy42) rfl (by kernel_rfl) (by kernel_rfl) (by kernel_rfl) (fun _ _ _ h => h) (Or.inl ⟨by rfl, ?yy42⟩) trivial ?ry42
            case yy42 => (intro w hSw; go_simp; try with_reducible rfl)
            (try simp only [List.getElem_toArray, List.getElem_cons_succ, List.getElem_cons_zero, Act.put, List.setIfInBounds_toArray, List.set_cons_zero, List.set_cons_succ])
            refine wpAnyH_take (i := 8) (oi := _) (v := ?vy43) rfl (by kernel_rfl) (by kernel_rfl) (by kernel_rfl) (fun _ _ _ h => h) (Or.inl ⟨by rfl, ?yy43⟩) trivial ?ry43
            case yy43 => (intro w hSw; go_simp; try with_reducible rfl)
            (try simp only [List.getElem_toArray, List.getElem_cons_succ, List.getElem_cons_zero, Act.put, List.setIfInBounds_toArray, List.set_cons_zero, List.set_cons_succ])
            refine wpAnyH_take (i := 9) (oi := _) (v := ?vy44) rfl (by kernel_rfl) (by kernel_rfl) (by kernel_rfl) (fun _ _ _ h => h) (Or.inl ⟨by rfl, ?yy44⟩) trivial ?ry44
            case yy44 => (intro w hSw; go_simp; try with_reducible rfl)
            (try simp only [List.getElem_toArray, List.getElem_cons_succ, List.getElem_cons_zero, Act.put, List.setIfInBounds_toArray, List.set_cons_zero, List.set_cons_succ])
            refine wpAnyH_take (i := 10) (oi := _) (v := ?vy45) rfl (by kernel_rfl) (by kernel_rfl) (by kernel_rfl) (fun _ _ _ h => h) (Or.inl ⟨by rfl, ?yy45⟩) trivial ?ry45
            case yy45 => (intro w hSw; go_simp; try with_reducible rfl)
            (try simp only [List.getElem_toArray, List.getElem_cons_succ, List.getElem_cons_zero, Act.put, List.setIfInBounds_toArray, List.set_cons_zero, List.set_cons_succ])
            refine wpAnyH_ready (rs := [0, 6]) (by kernel_rfl) (by simp) ?_
            refine AllReadyH.cons (o := _) rfl (fun K hK => ?_) (AllReadyH.cons (o := _) rfl (fun K hK => ?_) AllReadyH.nil)
            · (try simp only [List.getElem_toArray, List.getElem_cons_succ, List.getElem_cons_zero])
              go_simp
              refine hK.out _ _ trivial (fun _ => ?_)
              clear hK K
              (try simp only [List.getElem_toArray, List.getElem_cons_succ, List.getElem_cons_zero, Act.put, List.setIfInBounds_toArray, List.set_cons_zero, List.set_cons_succ])
              refine wpAnyH_ready (rs := [4, 6]) (by kernel_rfl) (by simp) ?_
              refine AllReadyH.cons (o := _) rfl (fun K hK => ?_) (AllReadyH.cons (o := _) rfl (fun K hK => ?_) AllReadyH.nil)
              · obtain ⟨v4y046, W4y046, hay046, o4y046, x4y046, z4y046⟩ := APP1.out (w1.alloc (.cells #[] 9)) ((X1).trans (chg_alloc _ _ _) (fun _ _ h => h)) _ _ _ (World.ownsRow_made (e := 9) (size := 1) (base := w.heap.size) w1 #[] 0 (X1).size (Nat.zero_le _) (by simp)) (by omega)
                refine step_append_run (by rfl) _ _ 55 (by rfl) (.slice (some ⟨w1.heap.size, 0, none⟩) 0 0) (.slice none 0 0) (by first | rfl | (rw [World.size_alloc]; rfl)) (by first | rfl | (rw [World.size_alloc]; rfl)) hay046 (hK.out _ _ trivial (fun _ => ?_))
                clear hK K
                (try simp only [List.getElem_toArray, List.getElem_cons_succ, List.getElem_cons_zero, Act.put, List.setIfInBounds_toArray, List.set_cons_zero, List.set_cons_succ])
                refine wpAnyH_ready (rs := [6]) (by kernel_rfl) (by simp) ?_
                refine AllReadyH.cons (o := _) rfl (fun K hK => ?_) AllReadyH.nil
                (try simp only [List.getElem_toArray, List.getElem_cons_succ, List.getElem_cons_zero])
                go_simp
                refine hK.out _ _ trivial (fun _ => ?_)
                clear hK K
                (try simp only [List.getElem_toArray, List.getElem_cons_succ, List.getElem_cons_zero, Act.put, List.setIfInBounds_toArray, List.set_cons_zero, List.set_cons_succ])
                refine wpAnyH_ready (rs := [7]) (by kernel_rfl) (by simp) ?_
                refine AllReadyH.cons (o := _) rfl (fun K hK => ?_) AllReadyH.nil
                obtain ⟨v7y00047, W7y00047, hay00047, o7y00047, x7y00047⟩ := APP2.out (W4y046.alloc (.cells #[.string (strBd s)] 9)) ((x4y046).trans (chg_alloc _ _ _) (fun _ _ h => h)) _ _ _ ((o4y046).alloc (.cells #[.string (strBd s)] 9)) (by omega) (W4y046.heap.size) (cellsAt_new W4y046 [.string (strBd s)] 9)
                refine step_append_run (by rfl) _ _ 55 (by rfl) v4y046 (.slice (some ⟨W4y046.heap.size, 0, none⟩) 1 1) (by first | rfl | (rw [World.size_alloc]; rfl)) (by first | rfl | (rw [World.size_alloc]; rfl)) hay00047 (hK.out _ _ trivial (fun _ => ?_))
                clear hK K
                (try simp only [List.getElem_toArray, List.getElem_cons_succ, List.getElem_cons_zero, Act.put, List.setIfInBounds_toArray, List.set_cons_zero, List.set_cons_succ])
                refine wpAnyH_ready (rs := [11]) (by kernel_rfl) (by simp) ?_
                refine AllReadyH.cons (o := _) rfl (fun K hK => ?_) AllReadyH.nil
                obtain ⟨v9y000048, W9y000048, hay000048, o9y000048, x9y000048⟩ := APP3.out W7y00047 x7y00047 _ _ _ o7y00047 (by omega)
                refine step_append_run (by rfl) _ _ 55 (by rfl) v7y00047 _ (by first | rfl | (rw [World.size_alloc]; rfl)) (by first | rfl | (rw [World.size_alloc]; rfl)) hay000048 (hK.out _ _ trivial (fun _ => ?_))
                clear hK K
                (try simp only [List.getElem_toArray, List.getElem_cons_succ, List.getElem_cons_zero, Act.put, List.setIfInBounds_toArray, List.set_cons_zero, List.set_cons_succ])
                refine wpAnyH_take (i := 12) (oi := _) (v := ?vy0000049) rfl (by kernel_rfl) (by kernel_rfl) (by kernel_rfl) (fun _ _ _ h => h) (Or.inl ⟨by rfl, ?yy0000049⟩) trivial ?ry0000049
                case yy0000049 => (intro w hSw; go_simp; try with_reducible rfl)
                (try simp only [List.getElem_toArray, List.getElem_cons_succ, List.getElem_cons_zero, Act.put, List.setIfInBounds_toArray, List.set_cons_zero, List.set_cons_succ])
                refine wpAnyH_done (by kernel_rfl) ?_ _
                have OO := Lib.hid o9y000048
                have XX := Lib.hid x9y000048
                go_wp2
                go_ret
                exact ⟨_, rfl, DONE.out _ _ OO.out, CHG.out _ XX.out⟩
              · (try simp only [List.getElem_toArray, List.getElem_cons_succ, List.getElem_cons_zero])
                go_simp
                refine hK.out _ _ trivial (fun _ => ?_)
                clear hK K
                (try simp only [List.getElem_toArray, List.getElem_cons_succ, List.getElem_cons_zero, Act.put, List.setIfInBounds_toArray, List.set_cons_zero, List.set_cons_succ])
                refine wpAnyH_ready (rs := [4]) (by kernel_rfl) (by simp) ?_
                refine AllReadyH.cons (o := _) rfl (fun K hK => ?_) AllReadyH.nil
                obtain ⟨v4y0150, W4y0150, hay0150, o4y0150, x4y0150, z4y0150⟩ := APP1.out ((w1.alloc (.cells #[] 9)).alloc (.cells #[.string (strBd s)] 9)) ((((X1).trans (chg_alloc _ _ _) (fun _ _ h => h))).trans (chg_alloc _ _ _) (fun _ _ h => h)) _ _ _ (((World.ownsRow_made (e := 9) (size := 1) (base := w.heap.size) w1 #[] 0 (X1).size (Nat.zero_le _) (by simp))).alloc (.cells #[.string (strBd s)] 9)) (by omega)
                refine step_append_run (by rfl) _ _ 55 (by rfl) (.slice (some ⟨w1.heap.size, 0, none⟩) 0 0) (.slice none 0 0) (by first | rfl | (rw [World.size_alloc]; rfl)) (by first | rfl | (rw [World.size_alloc]; rfl)) hay0150 (hK.out _ _ trivial (fun _ => ?_))
                clear hK K
                (try simp only [List.getElem_toArray, List.getElem_cons_succ, List.getElem_cons_zero, Act.put, List.setIfInBounds_toArray, List.set_cons_zero, List.set_cons_succ])
                refine wpAnyH_ready (rs := [7]) (by kernel_rfl) (by simp) ?_
                refine AllReadyH.cons (o := _) rfl (fun K hK => ?_) AllReadyH.nil
                obtain ⟨v7y01051, W7y01051, hay01051, o7y01051, x7y01051⟩ := APP2.out W4y0150 x4y0150 _ _ _ o4y0150 (by omega) ((w1.alloc (.cells #[] 9)).heap.size) (z4y0150 ((w1.alloc (.cells #[] 9)).heap.size) [.string (strBd s)] (by simp [Value.ownBlock]) (cellsAt_new (w1.alloc (.cells #[] 9)) [.string (strBd s)] 9))
                refine step_append_run (by rfl) _ _ 55 (by rfl) v4y0150 (.slice (some ⟨(w1.alloc (.cells #[] 9)).heap.size, 0, none⟩) 1 1) (by first | rfl | (rw [World.size_alloc]; rfl)) (by first | rfl | (rw [World.size_alloc]; rfl)) hay01051 (hK.out _ _ trivial (fun _ => ?_))
                clear hK K
                (try simp only [List.getElem_toArray, List.getElem_cons_succ, List.getElem_cons_zero, Act.put, List.setIfInBounds_toArray, List.set_cons_zero, List.set_cons_succ])
                refine wpAnyH_ready (rs := [11]) (by kernel_rfl) (by simp) ?_
                refine AllReadyH.cons (o := _) rfl (fun K hK => ?_) AllReadyH.nil
                obtain ⟨v9y010052, W9y010052, hay010052, o9y010052, x9y010052⟩ := APP3.out W7y01051 x7y01051 _ _ _ o7y01051 (by omega)
                refine step_append_run (by rfl) _ _ 55 (by rfl) v7y01051 _ (by first | rfl | (rw [World.size_alloc]; rfl)) (by first | rfl | (rw [World.size_alloc]; rfl)) hay010052 (hK.out _ _ trivial (fun _ => ?_))
                clear hK K
                (try simp only [List.getElem_toArray, List.getElem_cons_succ, List.getElem_cons_zero, Act.put, List.setIfInBounds_toArray, List.set_cons_zero, List.set_cons_succ])
                refine wpAnyH_take (i := 12) (oi := _) (v := ?vy0100053) rfl (by kernel_rfl) (by kernel_rfl) (by kernel_rfl) (fun _ _ _ h => h) (Or.inl ⟨by rfl, ?yy0100053⟩) trivial ?ry0100053
                case yy0100053 => (intro w hSw; go_simp; try with_reducible rfl)
                (try simp only [List.getElem_toArray, List.getElem_cons_succ, List.getElem_cons_zero, Act.put, List.setIfInBounds_toArray, List.set_cons_zero, List.set_cons_succ])
                refine wpAnyH_done (by kernel_rfl) ?_ _
                have OO := Lib.hid o9y010052
                have XX := Lib.hid x9y010052
                go_wp2
                go_ret
                exact ⟨_, rfl, DONE.out _ _ OO.out, CHG.out _ XX.out⟩
            · (try simp only [List.getElem_toArray, List.getElem_cons_succ, List.getElem_cons_zero])
              go_simp
              refine hK.out _ _ trivial (fun _ => ?_)
              clear hK K
              (try simp only [List.getElem_toArray, List.getElem_cons_succ, List.getElem_cons_zero, Act.put, List.setIfInBounds_toArray, List.set_cons_zero, List.set_cons_succ])
              refine wpAnyH_ready (rs := [0]) (by kernel_rfl) (by simp) ?_
              refine AllReadyH.cons (o := _) rfl (fun K hK => ?_) AllReadyH.nil
              (try simp only [List.getElem_toArray, List.getElem_cons_succ, List.getElem_cons_zero])
              go_simp
              refine hK.out _ _ trivial (fun _ => ?_)
              clear hK K
              (try simp only [List.getElem_toArray, List.getElem_cons_succ, List.getElem_cons_zero, Act.put, List.setIfInBounds_toArray, List.set_cons_zero, List.set_cons_succ])
              refine wpAnyH_ready (rs := [4]) (by kernel_rfl) (by simp) ?_
              refine AllReadyH.cons (o := _) rfl (fun K hK => ?_) AllReadyH.nil
              obtain ⟨v4y1054, W4y1054, hay1054, o4y1054, x4y1054, z4y1054⟩ := APP1.out ((w1.alloc (.cells #[.string (strBd s)] 9)).alloc (.cells #[] 9)) ((((X1).trans (chg_alloc _ _ _) (fun _ _ h => h))).trans (chg_alloc _ _ _) (fun _ _ h => h)) _ _ _ (World.ownsRow_made (e := 9) (size := 1) (base := w.heap.size) (w1.alloc (.cells #[.string (strBd s)] 9)) #[] 0 (((X1).trans (chg_alloc _ _ _) (fun _ _ h => h))).size (Nat.zero_le _) (by simp)) (by omega)
              refine step_append_run (by rfl) _ _ 55 (by rfl) (.slice (some ⟨(w1.alloc (.cells #[.string (strBd s)] 9)).heap.size, 0, none⟩) 0 0) (.slice none 0 0) (by first | rfl | (rw [World.size_alloc]; rfl)) (by first | rfl | (rw [World.size_alloc]; rfl)) hay1054 (hK.out _ _ trivial (fun _ => ?_))
              clear hK K
              (try simp only [List.getElem_toArray, List.getElem_cons_succ, List.getElem_cons_zero, Act.put, List.setIfInBounds_toArray, List.set_cons_zero, List.set_cons_succ])
              refine wpAnyH_ready (rs := [7]) (by kernel_rfl) (by simp) ?_
              refine AllReadyH.cons (o := _) rfl (fun K hK => ?_) AllReadyH.nil
              obtain ⟨v7y10055, W7y10055, hay10055, o7y10055, x7y10055⟩ := APP2.out W4y1054 x4y1054 _ _ _ o4y1054 (by omega) (w1.heap.size) (z4y1054 (w1.heap.size) [.string (strBd s)] (by simp [Value.ownBlock]) (((Ext.refl (w1.alloc (.cells #[.string (strBd s)] 9))).alloc _).cells (cellsAt_new w1 [.string (strBd s)] 9)))
              refine step_append_run (by rfl) _ _ 55 (by rfl) v4y1054 (.slice (some ⟨w1.heap.size, 0, none⟩) 1 1) (by first | rfl | (rw [World.size_alloc]; rfl)) (by first | rfl | (rw [World.size_alloc]; rfl)) hay10055 (hK.out _ _ trivial (fun _ => ?_))
              clear hK K
              (try simp only [List.getElem_toArray, List.getElem_cons_succ, List.getElem_cons_zero, Act.put, List.setIfInBounds_toArray, List.set_cons_zero, List.set_cons_succ])
              refine wpAnyH_ready (rs := [11]) (by kernel_rfl) (by simp) ?_
              refine AllReadyH.cons (o := _) rfl (fun K hK => ?_) AllReadyH.nil
              obtain ⟨v9y100056, W9y100056, hay100056, o9y100056, x9y100056⟩ := APP3.out W7y10055 x7y10055 _ _ _ o7y10055 (by omega)
              refine step_append_run (by rfl) _ _ 55 (by rfl) v7y10055 _ (by first | rfl | (rw [World.size_alloc]; rfl)) (by first | rfl | (rw [World.size_alloc]; rfl)) hay100056 (hK.out _ _ trivial (fun _ => ?_))
              clear hK K
              (try simp only [List.getElem_toArray, List.getElem_cons_succ, List.getElem_cons_zero, Act.put, List.setIfInBounds_toArray, List.set_cons_zero, List.set_cons_succ])
              refine wpAnyH_take (i := 12) (oi := _) (v := ?vy1000057) rfl (by kernel_rfl) (by kernel_rfl) (by kernel_rfl) (fun _ _ _ h => h) (Or.inl ⟨by rfl, ?yy1000057⟩) trivial ?ry1000057
              case yy1000057 => (intro w hSw; go_simp; try with_reducible rfl)
              (try simp only [List.getElem_toArray, List.getElem_cons_succ, List.getElem_cons_zero, Act.put, List.setIfInBounds_toArray, List.set_cons_zero, List.set_cons_succ])
              refine wpAnyH_done (by kernel_rfl) ?_ _
              have OO := Lib.hid o9y100056
              have XX := Lib.hid x9y100056
              go_wp2
              go_ret
              exact ⟨_, rfl, DONE.out _ _ OO.out, CHG.out _ XX.out⟩
          | some ad =>
            have APP1 : Hid (∀ W, Chg (fun i => w.heap.size ≤ i) w W → ∀ n' v xs', W.ownsRow w.heap.size 9 1 v n' xs' → n' ≤ 1000 → ∃ v' W', (Builtin.append_ #[55, 55] 55 #[v, .slice (some ad) 0 c]).run Try.prog W = .ok v' W' ∧ W'.ownsRow w.heap.size 9 1 v' (n' + 0) (xs' ++ []) ∧ Chg (fun i => w.heap.size ≤ i) w W' ∧ (∀ g vs, v.ownBlock ≠ some g → CellsAt W g 0 vs → CellsAt W' g 0 vs)) := fun W X n' v xs' own hb => by
              obtain ⟨v', W', h1, h2, h3⟩ := app_strs own X.size (some ad) 0 c [] rfl (by first | exact fun _ => ⟨rfl, rfl⟩ | exact fun e => by cases e) (fun ad e j u hj => by simp at hj) (fun u hu => by cases hu) (by omega)
              exact ⟨v', W', h1, h2, X.trans h3 (fun i hi e => by have := (own.lt i e).1; omega), fun g vs hg hc => h3.cells hc hg⟩
            have APP2 : Hid (∀ W, Chg (fun i => w.heap.size ≤ i) w W → ∀ n' v xs', W.ownsRow w.heap.size 9 1 v n' xs' → n' ≤ 1000 → ∀ g, CellsAt W g 0 [.string (strBd s)] → ∃ v' W', (Builtin.append_ #[55, 55] 55 #[v, .slice (some ⟨g, 0, none⟩) 1 1]).run Try.prog W = .ok v' W' ∧ W'.ownsRow w.heap.size 9 1 v' (n' + 1) (xs' ++ strsV [s]) ∧ Chg (fun i => w.heap.size ≤ i) w W') := fun W X n' v xs' own hb g hg => by
              obtain ⟨v', W', h1, h2, h3⟩ := app_strs own X.size (some ⟨g, 0, none⟩) 1 1 (strsV [s]) rfl (fun e => by cases e) (fun ad e j u hj => by cases e; rw [Addr.add_lit]; exact hg j u hj) (strsV_one _) (by omega)
              exact ⟨v', W', h1, h2, X.trans h3 (fun i hi e => by have := (own.lt i e).1; omega)⟩
            have APP3 : Hid (∀ W, Chg (fun i => w.heap.size ≤ i) w W → ∀ n' v xs', W.ownsRow w.heap.size 9 1 v n' xs' → n' ≤ 2000 → ∃ v' W', (Builtin.append_ #[55, 55] 55 #[v, .slice (some ad) 0 c]).run Try.prog W = .ok v' W' ∧ W'.ownsRow w.heap.size 9 1 v' (n' + 0) (xs' ++ []) ∧ Chg (fun i => w.heap.size ≤ i) w W') := fun W X n' v xs' own hb => by
              obtain ⟨v', W', h1, h2, h3⟩ := app_strs own X.size (some ad) 0 c [] rfl (by first | exact fun _ => ⟨rfl, rfl⟩ | exact fun e => by cases e) (fun ad e j u hj => by simp at hj) (fun u hu => by cases hu) (by omega)
              exact ⟨v', W', h1, h2, X.trans h3 (fun i hi e => by have := (own.lt i e).1; omega)⟩
            go_upto_region 6 with fail
            refine wp_region_held_drew (S := fun _ => True) (by kernel_rfl) trivial (fun _ => ?_)
            obtain ⟨w1, hw1⟩ : ∃ W, W = w.drew := ⟨_, rfl⟩
            rw [← hw1]
            have X1 : Chg (fun i => w.heap.size ≤ i) w w1 := by rw [hw1]; exact (Ext.refl w).drew.chg _
            clear hw1
            refine wpAnyH_take (i := 1) (oi := _) (v := ?vx20) rfl (by kernel_rfl) (by kernel_rfl) (by kernel_rfl) (fun _ _ _ h => h) (Or.inl ⟨by rfl, ?yx20⟩) trivial ?rx20
            case yx20 => (intro w hSw; go_simp; try with_reducible rfl)
            (try simp only [List.getElem_toArray, List.getElem_cons_succ, List.getElem_cons_zero, Act.put, List.setIfInBounds_toArray, List.set_cons_zero, List.set_cons_succ])
            refine wpAnyH_take (i := 2) (oi := _) (v := ?vx21) rfl (by kernel_rfl) (by kernel_rfl) (by kernel_rfl) (fun _ _ _ h => h) (Or.inl ⟨by rfl, ?yx21⟩) trivial ?rx21
            case yx21 => (intro w hSw; go_simp; try with_reducible rfl)
            (try simp only [List.getElem_toArray, List.getElem_cons_succ, List.getElem_cons_zero, Act.put, List.setIfInBounds_toArray, List.set_cons_zero, List.set_cons_succ])
            refine wpAnyH_take (i := 3) (oi := _) (v := ?vx22) rfl (by kernel_rfl) (by kernel_rfl) (by kernel_rfl) (fun _ _ _ h => h) (Or.inl ⟨by rfl, ?yx22⟩) trivial ?rx22
            case yx22 => (intro w hSw; go_simp; try with_reducible rfl)
            (try simp only [List.getElem_toArray, List.getElem_cons_succ, List.getElem_cons_zero, Act.put, List.setIfInBounds_toArray, List.set_cons_zero, List.set_cons_succ])
            refine wpAnyH_take (i := 5) (oi := _) (v := ?vx23) rfl (by kernel_rfl) (by kernel_rfl) (by kernel_rfl) (fun _ _ _ h => h) (Or.inl ⟨by rfl, ?yx23⟩) trivial ?rx23
            case yx23 => (intro w hSw; go_simp; try with_reducible rfl)
            (try simp only [List.getElem_toArray, List.getElem_cons_succ, List.getElem_cons_zero, Act.put, List.setIfInBounds_toArray, List.set_cons_zero, List.set_cons_succ])
            refine wpAnyH_take (i := 8) (oi := _) (v := ?vx24) rfl (by kernel_rfl) (by kernel_rfl) (by kernel_rfl) (fun _ _ _ h => h) (Or.inl ⟨by rfl, ?yx24⟩) trivial ?rx24
            case yx24 => (intro w hSw; go_simp; try with_reducible rfl)
            (try simp only [List.getElem_toArray, List.getElem_cons_succ, List.getElem_cons_zero, Act.put, List.setIfInBounds_toArray, List.set_cons_zero, List.set_cons_succ])
            refine wpAnyH_take (i := 9) (oi := _) (v := ?vx25) rfl (by kernel_rfl) (by kernel_rfl) (by kernel_rfl) (fun _ _ _ h => h) (Or.inl ⟨by rfl, ?yx25⟩) trivial ?rx25
            case yx25 => (intro w hSw; go_simp; try with_reducible rfl)
            (try simp only [List.getElem_toArray, List.getElem_cons_succ, List.getElem_cons_zero, Act.put, List.setIfInBounds_toArray, List.set_cons_zero, List.set_cons_succ])
            refine wpAnyH_take (i := 10) (oi := _) (v := ?vx26) rfl (by kernel_rfl) (by kernel_rfl) (by kernel_rfl) (fun _ _ _ h => h) (Or.inl ⟨by rfl, ?yx26⟩) trivial ?rx26
            case yx26 => (intro w hSw; go_simp; try with_reducible rfl)
            (try simp only [List.getElem_toArray, List.getElem_cons_succ, List.getElem_cons_zero, Act.put, List.setIfInBounds_toArray, List.set_cons_zero, List.set_cons_succ])
            refine wpAnyH_ready (rs := [0, 6]) (by kernel_rfl) (by simp) ?_
            refine AllReadyH.cons (o := _) rfl (fun K hK => ?_) (AllReadyH.cons (o := _) rfl (fun K hK => ?_) AllReadyH.nil)
            · (try simp only [List.getElem_toArray, List.getElem_cons_succ, List.getElem_cons_zero])
              go_simp
              refine hK.out _ _ trivial (fun _ => ?_)
              clear hK K
              (try simp only [List.getElem_toArray, List.getElem_cons_succ, List.getElem_cons_zero, Act.put, List.setIfInBounds_toArray, List.set_cons_zero, List.set_cons_succ])
              refine wpAnyH_ready (rs := [4, 6]) (by kernel_rfl) (by simp) ?_
              refine AllReadyH.cons (o := _) rfl (fun K hK => ?_) (AllReadyH.cons (o := _) rfl (fun K hK => ?_) AllReadyH.nil)
              · obtain ⟨v4x027, W4x027, hax027, o4x027, x4x027, z4x027⟩ := APP1.out (w1.alloc (.cells #[] 9)) ((X1).trans (chg_alloc _ _ _) (fun _ _ h => h)) _ _ _ (World.ownsRow_made (e := 9) (size := 1) (base := w.heap.size) w1 #[] 0 (X1).size (Nat.zero_le _) (by simp)) (by omega)
                refine step_append_run (by rfl) _ _ 55 (by rfl) (.slice (some ⟨w1.heap.size, 0, none⟩) 0 0) (.slice (some ad) 0 c) (by first | rfl | (rw [World.size_alloc]; rfl)) (by first | rfl | (rw [World.size_alloc]; rfl)) hax027 (hK.out _ _ trivial (fun _ => ?_))
                clear hK K
                (try simp only [List.getElem_toArray, List.getElem_cons_succ, List.getElem_cons_zero, Act.put, List.setIfInBounds_toArray, List.set_cons_zero, List.set_cons_succ])
                refine wpAnyH_ready (rs := [6]) (by kernel_rfl) (by simp) ?_
                refine AllReadyH.cons (o := _) rfl (fun K hK => ?_) AllReadyH.nil
                (try simp only [List.getElem_toArray, List.getElem_cons_succ, List.getElem_cons_zero])
                go_simp
                refine hK.out _ _ trivial (fun _ => ?_)
                clear hK K
                (try simp only [List.getElem_toArray, List.getElem_cons_succ, List.getElem_cons_zero, Act.put, List.setIfInBounds_toArray, List.set_cons_zero, List.set_cons_succ])
                refine wpAnyH_ready (rs := [7]) (by kernel_rfl) (by simp) ?_
                refine AllReadyH.cons (o := _) rfl (fun K hK => ?_) AllReadyH.nil
                obtain ⟨v7x00028, W7x00028, hax00028, o7x00028, x7x00028⟩ := APP2.out (W4x027.alloc (.cells #[.string (strBd s)] 9)) ((x4x027).trans (chg_alloc _ _ _) (fun _ _ h => h)) _ _ _ ((o4x027).alloc (.cells #[.string (strBd s)] 9)) (by omega) (W4x027.heap.size) (cellsAt_new W4x027 [.string (strBd s)] 9)
                refine step_append_run (by rfl) _ _ 55 (by rfl) v4x027 (.slice (some ⟨W4x027.heap.size, 0, none⟩) 1 1) (by first | rfl | (rw [World.size_alloc]; rfl)) (by first | rfl | (rw [World.size_alloc]; rfl)) hax00028 (hK.out _ _ trivial (fun _ => ?_))
                clear hK K
                (try simp only [List.getElem_toArray, List.getElem_cons_succ, List.getElem_cons_zero, Act.put, List.setIfInBounds_toArray, List.set_cons_zero, List.set_cons_succ])
                refine wpAnyH_ready (rs := [11]) (by kernel_rfl) (by simp) ?_
                refine AllReadyH.cons (o := _) rfl (fun K hK => ?_) AllReadyH.nil
                obtain ⟨v9x000029, W9x000029, hax000029, o9x000029, x9x000029⟩ := APP3.out W7x00028 x7x00028 _ _ _ o7x00028 (by omega)
                refine step_append_run (by rfl) _ _ 55 (by rfl) v7x00028 _ (by first | rfl | (rw [World.size_alloc]; rfl)) (by first | rfl | (rw [World.size_alloc]; rfl)) hax000029 (hK.out _ _ trivial (fun _ => ?_))
                clear hK K
                (try simp only [List.getElem_toArray, List.getElem_cons_succ, List.getElem_cons_zero, Act.put, List.setIfInBounds_toArray, List.set_cons_zero, List.set_cons_succ])
                refine wpAnyH_take (i := 12) (oi := _) (v := ?vx0000030) rfl (by kernel_rfl) (by kernel_rfl) (by kernel_rfl) (fun _ _ _ h => h) (Or.inl ⟨by rfl, ?yx0000030⟩) trivial ?rx0000030
                case yx0000030 => (intro w hSw; go_simp; try with_reducible rfl)
                (try simp only [List.getElem_toArray, List.getElem_cons_succ, List.getElem_cons_zero, Act.put, List.setIfInBounds_toArray, List.set_cons_zero, List.set_cons_succ])
                refine wpAnyH_done (by kernel_rfl) ?_ _
                have OO := Lib.hid o9x000029
                have XX := Lib.hid x9x000029
                go_wp2
                go_ret
                exact ⟨_, rfl, DONE.out _ _ OO.out, CHG.out _ XX.out⟩
              · (try simp only [List.getElem_toArray, List.getElem_cons_succ, List.getElem_cons_zero])
                go_simp
                refine hK.out _ _ trivial (fun _ => ?_)
                clear hK K
                (try simp only [List.getElem_toArray, List.getElem_cons_succ, List.getElem_cons_zero, Act.put, List.setIfInBounds_toArray, List.set_cons_zero, List.set_cons_succ])
                refine wpAnyH_ready (rs := [4]) (by kernel_rfl) (by simp) ?_
                refine AllReadyH.cons (o := _) rfl (fun K hK => ?_) AllReadyH.nil
                obtain ⟨v4x0131, W4x0131, hax0131, o4x0131, x4x0131, z4x0131⟩ := APP1.out ((w1.alloc (.cells #[] 9)).alloc (.cells #[.string (strBd s)] 9)) ((((X1).trans (chg_alloc _ _ _) (fun _ _ h => h))).trans (chg_alloc _ _ _) (fun _ _ h => h)) _ _ _ (((World.ownsRow_made (e := 9) (size := 1) (base := w.heap.size) w1 #[] 0 (X1).size (Nat.zero_le _) (by simp))).alloc (.cells #[.string (strBd s)] 9)) (by omega)
                refine step_append_run (by rfl) _ _ 55 (by rfl) (.slice (some ⟨w1.heap.size, 0, none⟩) 0 0) (.slice (some ad) 0 c) (by first | rfl | (rw [World.size_alloc]; rfl)) (by first | rfl | (rw [World.size_alloc]; rfl)) hax0131 (hK.out _ _ trivial (fun _ => ?_))
                clear hK K
                (try simp only [List.getElem_toArray, List.getElem_cons_succ, List.getElem_cons_zero, Act.put, List.setIfInBounds_toArray, List.set_cons_zero, List.set_cons_succ])
                refine wpAnyH_ready (rs := [7]) (by kernel_rfl) (by simp) ?_
                refine AllReadyH.cons (o := _) rfl (fun K hK => ?_) AllReadyH.nil
                obtain ⟨v7x01032, W7x01032, hax01032, o7x01032, x7x01032⟩ := APP2.out W4x0131 x4x0131 _ _ _ o4x0131 (by omega) ((w1.alloc (.cells #[] 9)).heap.size) (z4x0131 ((w1.alloc (.cells #[] 9)).heap.size) [.string (strBd s)] (by simp [Value.ownBlock]) (cellsAt_new (w1.alloc (.cells #[] 9)) [.string (strBd s)] 9))
                refine step_append_run (by rfl) _ _ 55 (by rfl) v4x0131 (.slice (some ⟨(w1.alloc (.cells #[] 9)).heap.size, 0, none⟩) 1 1) (by first | rfl | (rw [World.size_alloc]; rfl)) (by first | rfl | (rw [World.size_alloc]; rfl)) hax01032 (hK.out _ _ trivial (fun _ => ?_))
                clear hK K
                (try simp only [List.getElem_toArray, List.getElem_cons_succ, List.getElem_cons_zero, Act.put, List.setIfInBounds_toArray, List.set_cons_zero, List.set_cons_succ])
                refine wpAnyH_ready (rs := [11]) (by kernel_rfl) (by simp) ?_
                refine AllReadyH.cons (o := _) rfl (fun K hK => ?_) AllReadyH.nil
                obtain ⟨v9x010033, W9x010033, hax010033, o9x010033, x9x010033⟩ := APP3.out W7x01032 x7x01032 _ _ _ o7x01032 (by omega)
                refine step_append_run (by rfl) _ _ 55 (by rfl) v7x01032 _ (by first | rfl | (rw [World.size_alloc]; rfl)) (by first | rfl | (rw [World.size_alloc]; rfl)) hax010033 (hK.out _ _ trivial (fun _ => ?_))
                clear hK K
                (try simp only [List.getElem_toArray, List.getElem_cons_succ, List.getElem_cons_zero, Act.put, List.setIfInBounds_toArray, List.set_cons_zero, List.set_cons_succ])
                refine wpAnyH_take (i := 12) (oi := _) (v := ?vx0100034) rfl (by kernel_rfl) (by kernel_rfl) (by kernel_rfl) (fun _ _ _ h => h) (Or.inl ⟨by rfl, ?yx0100034⟩) trivial ?rx0100034
                case yx0100034 => (intro w hSw; go_simp; try with_reducible rfl)
                (try simp only [List.getElem_toArray, List.getElem_cons_succ, List.getElem_cons_zero, Act.put, List.setIfInBounds_toArray, List.set_cons_zero, List.set_cons_succ])
                refine wpAnyH_done (by kernel_rfl) ?_ _
                have OO := Lib.hid o9x010033
                have XX := Lib.hid x9x010033
                go_wp2
                go_ret
                exact ⟨_, rfl, DONE.out _ _ OO.out, CHG.out _ XX.out⟩
            · (try simp only [List.getElem_toArray, List.getElem_cons_succ, List.getElem_cons_zero])
              go_simp
              refine hK.out _ _ trivial (fun _ => ?_)
              clear hK K
              (try simp only [List.getElem_toArray, List.getElem_cons_succ, List.getElem_cons_zero, Act.put, List.setIfInBounds_toArray, List.set_cons_zero, List.set_cons_succ])
              refine wpAnyH_ready (rs := [0]) (by kernel_rfl) (by simp) ?_
              refine AllReadyH.cons (o := _) rfl (fun K hK => ?_) AllReadyH.nil
              (try simp only [List.getElem_toArray, List.getElem_cons_succ, List.getElem_cons_zero])
              go_simp
              refine hK.out _ _ trivial (fun _ => ?_)
              clear hK K
              (try simp only [List.getElem_toArray, List.getElem_cons_succ, List.getElem_cons_zero, Act.put, List.setIfInBounds_toArray, List.set_cons_zero, List.set_cons_succ])
              refine wpAnyH_ready (rs := [4]) (by kernel_rfl) (by simp) ?_
              refine AllReadyH.cons (o := _) rfl (fun K hK => ?_) AllReadyH.nil
              obtain ⟨v4x1035, W4x1035, hax1035, o4x1035, x4x1035, z4x1035⟩ := APP1.out ((w1.alloc (.cells #[.string (strBd s)] 9)).alloc (.cells #[] 9)) ((((X1).trans (chg_alloc _ _ _) (fun _ _ h => h))).trans (chg_alloc _ _ _) (fun _ _ h => h)) _ _ _ (World.ownsRow_made (e := 9) (size := 1) (base := w.heap.size) (w1.alloc (.cells #[.string (strBd s)] 9)) #[] 0 (((X1).trans (chg_alloc _ _ _) (fun _ _ h => h))).size (Nat.zero_le _) (by simp)) (by omega)
              refine step_append_run (by rfl) _ _ 55 (by rfl) (.slice (some ⟨(w1.alloc (.cells #[.string (strBd s)] 9)).heap.size, 0, none⟩) 0 0) (.slice (some ad) 0 c) (by first | rfl | (rw [World.size_alloc]; rfl)) (by first | rfl | (rw [World.size_alloc]; rfl)) hax1035 (hK.out _ _ trivial (fun _ => ?_))
              clear hK K
              (try simp only [List.getElem_toArray, List.getElem_cons_succ, List.getElem_cons_zero, Act.put, List.setIfInBounds_toArray, List.set_cons_zero, List.set_cons_succ])
              refine wpAnyH_ready (rs := [7]) (by kernel_rfl) (by simp) ?_
              refine AllReadyH.cons (o := _) rfl (fun K hK => ?_) AllReadyH.nil
              obtain ⟨v7x10036, W7x10036, hax10036, o7x10036, x7x10036⟩ := APP2.out W4x1035 x4x1035 _ _ _ o4x1035 (by omega) (w1.heap.size) (z4x1035 (w1.heap.size) [.string (strBd s)] (by simp [Value.ownBlock]) (((Ext.refl (w1.alloc (.cells #[.string (strBd s)] 9))).alloc _).cells (cellsAt_new w1 [.string (strBd s)] 9)))
              refine step_append_run (by rfl) _ _ 55 (by rfl) v4x1035 (.slice (some ⟨w1.heap.size, 0, none⟩) 1 1) (by first | rfl | (rw [World.size_alloc]; rfl)) (by first | rfl | (rw [World.size_alloc]; rfl)) hax10036 (hK.out _ _ trivial (fun _ => ?_))
              clear hK K
              (try simp only [List.getElem_toArray, List.getElem_cons_succ, List.getElem_cons_zero, Act.put, List.setIfInBounds_toArray, List.set_cons_zero, List.set_cons_succ])
              refine wpAnyH_ready (rs := [11]) (by kernel_rfl) (by simp) ?_
              refine AllReadyH.cons (o := _) rfl (fun K hK => ?_) AllReadyH.nil
              obtain ⟨v9x100037, W9x100037, hax100037, o9x100037, x9x100037⟩ := APP3.out W7x10036 x7x10036 _ _ _ o7x10036 (by omega)
              refine step_append_run (by rfl) _ _ 55 (by rfl) v7x10036 _ (by first | rfl | (rw [World.size_alloc]; rfl)) (by first | rfl | (rw [World.size_alloc]; rfl)) hax100037 (hK.out _ _ trivial (fun _ => ?_))
              clear hK K
              (try simp only [List.getElem_toArray, List.getElem_cons_succ, List.getElem_cons_zero, Act.put, List.setIfInBounds_toArray, List.set_cons_zero, List.set_cons_succ])
              refine wpAnyH_take (i := 12) (oi := _) (v := ?vx1000038) rfl (by kernel_rfl) (by kernel_rfl) (by kernel_rfl) (fun _ _ _ h => h) (Or.inl ⟨by rfl, ?yx1000038⟩) trivial ?rx1000038
              case yx1000038 => (intro w hSw; go_simp; try with_reducible rfl)
              (try simp only [List.getElem_toArray, List.getElem_cons_succ, List.getElem_cons_zero, Act.put, List.setIfInBounds_toArray, List.set_cons_zero, List.set_cons_succ])
              refine wpAnyH_done (by kernel_rfl) ?_ _
              have OO := Lib.hid o9x100037
              have XX := Lib.hid x9x100037
              go_wp2
              go_ret
              exact ⟨_, rfl, DONE.out _ _ OO.out, CHG.out _ XX.out⟩
        · obtain ⟨b, o, rfl, C0⟩ := H3.out (by have := HN.out; omega)
          have C : CellsAt w b o (strsV xs) := C0
          have hb : b < w.heap.size := C.lt (by intro e; have := congrArg List.length e; rw [strsV_length, HN.out] at this; simp at this; omega)
          have zc : (n : Int) ≤ (c : Int) := by omega
          have zt : t ≤ c := by omega
          have zt2 : (t : Int) ≤ (c : Int) := by omega
          obtain ⟨a2, haa, hA⟩ : ∃ a2 : Addr, (if c = t then some (⟨b, o, none⟩ : Addr) else some ⟨b, o + t, none⟩) = some a2 ∧ ∀ W, Chg (fun i => w.heap.size ≤ i) w W → ∀ j u, (strsV (xs.drop t))[j]? = some u → W.cell? (a2.add j) = some u := by
            by_cases hct : c = t
            · refine ⟨_, if_pos hct, fun W X j u hj => ?_⟩
              have hj2 := (List.getElem?_eq_some_iff.1 hj).1
              rw [strsV_length, List.length_drop, HN.out] at hj2
              omega
            · refine ⟨_, if_neg hct, fun W X j u hj => ?_⟩
              rw [Addr.add_lit]
              have := X.cells C (by show ¬ _ ≤ b; omega) (t + j) u (by simpa [strsV] using hj)
              rwa [← Nat.add_assoc] at this
          have APP1 : Hid (∀ W, Chg (fun i => w.heap.size ≤ i) w W → ∀ n' v xs', W.ownsRow w.heap.size 9 1 v n' xs' → n' ≤ 1000 → ∃ v' W', (Builtin.append_ #[55, 55] 55 #[v, .slice (some ⟨b, o, none⟩) t c]).run Try.prog W = .ok v' W' ∧ W'.ownsRow w.heap.size 9 1 v' (n' + t) (xs' ++ strsV (xs.take t)) ∧ Chg (fun i => w.heap.size ≤ i) w W' ∧ (∀ g vs, v.ownBlock ≠ some g → CellsAt W g 0 vs → CellsAt W' g 0 vs)) := fun W X n' v xs' own hb => by
            obtain ⟨v', W', h1, h2, h3⟩ := app_strs own X.size (some ⟨b, o, none⟩) t c (strsV (xs.take t)) (by rw [strsV_length, List.length_take, HN.out]; omega) (fun e => by cases e) (fun ad e j u hj => by cases e; rw [Addr.add_lit]; refine X.cells C (by show ¬ _ ≤ b; omega) j u ?_; have hj2 := (List.getElem?_eq_some_iff.1 hj).1; rw [strsV_length, List.length_take] at hj2; simp only [strsV, List.map_take, List.getElem?_take] at hj; rwa [if_pos (by omega)] at hj) (strsV_one _) (by omega)
            exact ⟨v', W', h1, h2, X.trans h3 (fun i hi e => by have := (own.lt i e).1; omega), fun g vs hg hc => h3.cells hc hg⟩
          have APP2 : Hid (∀ W, Chg (fun i => w.heap.size ≤ i) w W → ∀ n' v xs', W.ownsRow w.heap.size 9 1 v n' xs' → n' ≤ 1000 → ∀ g, CellsAt W g 0 [.string (strBd s)] → ∃ v' W', (Builtin.append_ #[55, 55] 55 #[v, .slice (some ⟨g, 0, none⟩) 1 1]).run Try.prog W = .ok v' W' ∧ W'.ownsRow w.heap.size 9 1 v' (n' + 1) (xs' ++ strsV [s]) ∧ Chg (fun i => w.heap.size ≤ i) w W') := fun W X n' v xs' own hb g hg => by
            obtain ⟨v', W', h1, h2, h3⟩ := app_strs own X.size (some ⟨g, 0, none⟩) 1 1 (strsV [s]) rfl (fun e => by cases e) (fun ad e j u hj => by cases e; rw [Addr.add_lit]; exact hg j u hj) (strsV_one _) (by omega)
            exact ⟨v', W', h1, h2, X.trans h3 (fun i hi e => by have := (own.lt i e).1; omega)⟩
          have APP3 : Hid (∀ W, Chg (fun i => w.heap.size ≤ i) w W → ∀ n' v xs', W.ownsRow w.heap.size 9 1 v n' xs' → n' ≤ 2000 → ∃ v' W', (Builtin.append_ #[55, 55] 55 #[v, .slice (some a2) (n - t) (c - t)]).run Try.prog W = .ok v' W' ∧ W'.ownsRow w.heap.size 9 1 v' (n' + (n - t)) (xs' ++ strsV (xs.drop t)) ∧ Chg (fun i => w.heap.size ≤ i) w W') := fun W X n' v xs' own hb => by
            obtain ⟨v', W', h1, h2, h3⟩ := app_strs own X.size (some a2) (n - t) (c - t) (strsV (xs.drop t)) (by rw [strsV_length, List.length_drop, HN.out]) (fun e => by cases e) (fun ad e j u hj => by cases e; exact hA W X j u hj) (strsV_one _) (by omega)
            exact ⟨v', W', h1, h2, X.trans h3 (fun i hi e => by have := (own.lt i e).1; omega)⟩
          have DONE : Hid (∀ W v, W.ownsRow w.heap.size 9 1 v (0 + t + 1 + (n - t)) ([] ++ strsV (xs.take t) ++ strsV [s] ++ strsV (xs.drop t)) → StrsIn W v (insB xs s)) := fun W v h => by
            rw [E.out]
            refine strs_own (B := w.heap.size) (n := 0 + t + 1 + (n - t)) ?_
            rw [strsV_append, strsV_append]
            exact h
          have CHG : Hid (∀ W, Chg (fun i => w.heap.size ≤ i) w W → Chg (fun _ => False) w W) := fun W X => X.mono (fun i hi h => by omega)
          have C := Lib.hid C
          clear C0 hA
          go_upto_region 6 with fail
          refine wp_region_held_drew (S := fun _ => True) (by kernel_rfl) trivial (fun _ => ?_)
          obtain ⟨w1, hw1⟩ : ∃ W, W = w.drew := ⟨_, rfl⟩
          rw [← hw1]
          have X1 : Chg (fun i => w.heap.size ≤ i) w w1 := by rw [hw1]; exact (Ext.refl w).drew.chg _
          clear hw1
          refine wpAnyH_take (i := 1) (oi := _) (v := ?vw1) rfl (by kernel_rfl) (by kernel_rfl) (by kernel_rfl) (fun _ _ _ h => h) (Or.inl ⟨by rfl, ?yw1⟩) trivial ?rw1
          case yw1 => (intro w hSw; go_simp; try with_reducible rfl)
          (try simp only [List.getElem_toArray, List.getElem_cons_succ, List.getElem_cons_zero, Act.put, List.setIfInBounds_toArray, List.set_cons_zero, List.set_cons_succ])
          refine wpAnyH_take (i := 2) (oi := _) (v := ?vw2) rfl (by kernel_rfl) (by kernel_rfl) (by kernel_rfl) (fun _ _ _ h => h) (Or.inl ⟨by rfl, ?yw2⟩) trivial ?rw2
          case yw2 => (intro w hSw; go_simp; try with_reducible rfl)
          (try simp only [List.getElem_toArray, List.getElem_cons_succ, List.getElem_cons_zero, Act.put, List.setIfInBounds_toArray, List.set_cons_zero, List.set_cons_succ])
          refine wpAnyH_take (i := 3) (oi := _) (v := ?vw3) rfl (by kernel_rfl) (by kernel_rfl) (by kernel_rfl) (fun _ _ _ h => h) (Or.inl ⟨by rfl, ?yw3⟩) trivial ?rw3
          case yw3 => (intro w hSw; go_simp; try with_reducible rfl)
          (try simp only [List.getElem_toArray, List.getElem_cons_succ, List.getElem_cons_zero, Act.put, List.setIfInBounds_toArray, List.set_cons_zero, List.set_cons_succ])
          refine wpAnyH_take (i := 5) (oi := _) (v := ?vw4) rfl (by kernel_rfl) (by kernel_rfl) (by kernel_rfl) (fun _ _ _ h => h) (Or.inl ⟨by rfl, ?yw4⟩) trivial ?rw4
          case yw4 => (intro w hSw; go_simp; try with_reducible rfl)
          (try simp only [List.getElem_toArray, List.getElem_cons_succ, List.getElem_cons_zero, Act.put, List.setIfInBounds_toArray, List.set_cons_zero, List.set_cons_succ])
          refine wpAnyH_take (i := 8) (oi := _) (v := ?vw5) rfl (by kernel_rfl) (by kernel_rfl) (by kernel_rfl) (fun _ _ _ h => h) (Or.inl ⟨by rfl, ?yw5⟩) trivial ?rw5
          case yw5 => (intro w hSw; go_simp; try with_reducible rfl)
          (try simp only [List.getElem_toArray, List.getElem_cons_succ, List.getElem_cons_zero, Act.put, List.setIfInBounds_toArray, List.set_cons_zero, List.set_cons_succ])
          refine wpAnyH_take (i := 9) (oi := _) (v := ?vw6) rfl (by kernel_rfl) (by kernel_rfl) (by kernel_rfl) (fun _ _ _ h => h) (Or.inl ⟨by rfl, ?yw6⟩) trivial ?rw6
          case yw6 => (intro w hSw; go_simp; try with_reducible rfl)
          (try simp only [List.getElem_toArray, List.getElem_cons_succ, List.getElem_cons_zero, Act.put, List.setIfInBounds_toArray, List.set_cons_zero, List.set_cons_succ])
          refine wpAnyH_take (i := 10) (oi := _) (v := ?vw7) rfl (by kernel_rfl) (by kernel_rfl) (by kernel_rfl) (fun _ _ _ h => h) (Or.inl ⟨by rfl, ?yw7⟩) trivial ?rw7
          case yw7 => (intro w hSw; go_simp; try with_reducible rfl)
          (try simp only [List.getElem_toArray, List.getElem_cons_succ, List.getElem_cons_zero, Act.put, List.setIfInBounds_toArray, List.set_cons_zero, List.set_cons_succ])
          refine wpAnyH_ready (rs := [0, 6]) (by kernel_rfl) (by simp) ?_
          refine AllReadyH.cons (o := _) rfl (fun K hK => ?_) (AllReadyH.cons (o := _) rfl (fun K hK => ?_) AllReadyH.nil)
          · (try simp only [List.getElem_toArray, List.getElem_cons_succ, List.getElem_cons_zero])
            go_simp
            refine hK.out _ _ trivial (fun _ => ?_)
            clear hK K
            (try simp only [List.getElem_toArray, List.getElem_cons_succ, List.getElem_cons_zero, Act.put, List.setIfInBounds_toArray, List.set_cons_zero, List.set_cons_succ])
            refine wpAnyH_ready (rs := [4, 6]) (by kernel_rfl) (by simp) ?_
            refine AllReadyH.cons (o := _) rfl (fun K hK => ?_) (AllReadyH.cons (o := _) rfl (fun K hK => ?_) AllReadyH.nil)
            · obtain ⟨v4w08, W4w08, haw08, o4w08, x4w08, z4w08⟩ := APP1.out (w1.alloc (.cells #[] 9)) ((X1).trans (chg_alloc _ _ _) (fun _ _ h => h)) _ _ _ (World.ownsRow_made (e := 9) (size := 1) (base := w.heap.size) w1 #[] 0 (X1).size (Nat.zero_le _) (by simp)) (by omega)
              refine step_append_run (by rfl) _ _ 55 (by rfl) (.slice (some ⟨w1.heap.size, 0, none⟩) 0 0) (.slice (some ⟨b, o, none⟩) t c) (by first | rfl | (rw [World.size_alloc]; rfl)) (by first | rfl | (rw [World.size_alloc]; rfl)) haw08 (hK.out _ _ trivial (fun _ => ?_))
              clear hK K
              (try simp only [List.getElem_toArray, List.getElem_cons_succ, List.getElem_cons_zero, Act.put, List.setIfInBounds_toArray, List.set_cons_zero, List.set_cons_succ])
              refine wpAnyH_ready (rs := [6]) (by kernel_rfl) (by simp) ?_
              refine AllReadyH.cons (o := _) rfl (fun K hK => ?_) AllReadyH.nil
              (try simp only [List.getElem_toArray, List.getElem_cons_succ, List.getElem_cons_zero])
              go_simp
              refine hK.out _ _ trivial (fun _ => ?_)
              clear hK K
              (try simp only [List.getElem_toArray, List.getElem_cons_succ, List.getElem_cons_zero, Act.put, List.setIfInBounds_toArray, List.set_cons_zero, List.set_cons_succ])
              refine wpAnyH_ready (rs := [7]) (by kernel_rfl) (by simp) ?_
              refine AllReadyH.cons (o := _) rfl (fun K hK => ?_) AllReadyH.nil
              obtain ⟨v7w0009, W7w0009, haw0009, o7w0009, x7w0009⟩ := APP2.out (W4w08.alloc (.cells #[.string (strBd s)] 9)) ((x4w08).trans (chg_alloc _ _ _) (fun _ _ h => h)) _ _ _ ((o4w08).alloc (.cells #[.string (strBd s)] 9)) (by omega) (W4w08.heap.size) (cellsAt_new W4w08 [.string (strBd s)] 9)
              refine step_append_run (by rfl) _ _ 55 (by rfl) v4w08 (.slice (some ⟨W4w08.heap.size, 0, none⟩) 1 1) (by first | rfl | (rw [World.size_alloc]; rfl)) (by first | rfl | (rw [World.size_alloc]; rfl)) haw0009 (hK.out _ _ trivial (fun _ => ?_))
              clear hK K
              (try simp only [List.getElem_toArray, List.getElem_cons_succ, List.getElem_cons_zero, Act.put, List.setIfInBounds_toArray, List.set_cons_zero, List.set_cons_succ])
              refine wpAnyH_ready (rs := [11]) (by kernel_rfl) (by simp) ?_
              refine AllReadyH.cons (o := _) rfl (fun K hK => ?_) AllReadyH.nil
              obtain ⟨v9w000010, W9w000010, haw000010, o9w000010, x9w000010⟩ := APP3.out W7w0009 x7w0009 _ _ _ o7w0009 (by omega)
              refine step_append_run (by rfl) _ _ 55 (by rfl) v7w0009 _ (by first | rfl | (rw [World.size_alloc]; rfl)) (by first | rfl | (rw [World.size_alloc]; rfl)) haw000010 (hK.out _ _ trivial (fun _ => ?_))
              clear hK K
              (try simp only [List.getElem_toArray, List.getElem_cons_succ, List.getElem_cons_zero, Act.put, List.setIfInBounds_toArray, List.set_cons_zero, List.set_cons_succ])
              refine wpAnyH_take (i := 12) (oi := _) (v := ?vw0000011) rfl (by kernel_rfl) (by kernel_rfl) (by kernel_rfl) (fun _ _ _ h => h) (Or.inl ⟨by rfl, ?yw0000011⟩) trivial ?rw0000011
              case yw0000011 => (intro w hSw; go_simp; try with_reducible rfl)
              (try simp only [List.getElem_toArray, List.getElem_cons_succ, List.getElem_cons_zero, Act.put, List.setIfInBounds_toArray, List.set_cons_zero, List.set_cons_succ])
              refine wpAnyH_done (by kernel_rfl) ?_ _
              have OO := Lib.hid o9w000010
              have XX := Lib.hid x9w000010
              go_wp2
              go_ret
              exact ⟨_, rfl, DONE.out _ _ OO.out, CHG.out _ XX.out⟩
            · (try simp only [List.getElem_toArray, List.getElem_cons_succ, List.getElem_cons_zero])
              go_simp
              refine hK.out _ _ trivial (fun _ => ?_)
              clear hK K
              (try simp only [List.getElem_toArray, List.getElem_cons_succ, List.getElem_cons_zero, Act.put, List.setIfInBounds_toArray, List.set_cons_zero, List.set_cons_succ])
              refine wpAnyH_ready (rs := [4]) (by kernel_rfl) (by simp) ?_
              refine AllReadyH.cons (o := _) rfl (fun K hK => ?_) AllReadyH.nil
              obtain ⟨v4w0112, W4w0112, haw0112, o4w0112, x4w0112, z4w0112⟩ := APP1.out ((w1.alloc (.cells #[] 9)).alloc (.cells #[.string (strBd s)] 9)) ((((X1).trans (chg_alloc _ _ _) (fun _ _ h => h))).trans (chg_alloc _ _ _) (fun _ _ h => h)) _ _ _ (((World.ownsRow_made (e := 9) (size := 1) (base := w.heap.size) w1 #[] 0 (X1).size (Nat.zero_le _) (by simp))).alloc (.cells #[.string (strBd s)] 9)) (by omega)
              refine step_append_run (by rfl) _ _ 55 (by rfl) (.slice (some ⟨w1.heap.size, 0, none⟩) 0 0) (.slice (some ⟨b, o, none⟩) t c) (by first | rfl | (rw [World.size_alloc]; rfl)) (by first | rfl | (rw [World.size_alloc]; rfl)) haw0112 (hK.out _ _ trivial (fun _ => ?_))
              clear hK K
              (try simp only [List.getElem_toArray, List.getElem_cons_succ, List.getElem_cons_zero, Act.put, List.setIfInBounds_toArray, List.set_cons_zero, List.set_cons_succ])
              refine wpAnyH_ready (rs := [7]) (by kernel_rfl) (by simp) ?_
              refine AllReadyH.cons (o := _) rfl (fun K hK => ?_) AllReadyH.nil
              obtain ⟨v7w01013, W7w01013, haw01013, o7w01013, x7w01013⟩ := APP2.out W4w0112 x4w0112 _ _ _ o4w0112 (by omega) ((w1.alloc (.cells #[] 9)).heap.size) (z4w0112 ((w1.alloc (.cells #[] 9)).heap.size) [.string (strBd s)] (by simp [Value.ownBlock]) (cellsAt_new (w1.alloc (.cells #[] 9)) [.string (strBd s)] 9))
              refine step_append_run (by rfl) _ _ 55 (by rfl) v4w0112 (.slice (some ⟨(w1.alloc (.cells #[] 9)).heap.size, 0, none⟩) 1 1) (by first | rfl | (rw [World.size_alloc]; rfl)) (by first | rfl | (rw [World.size_alloc]; rfl)) haw01013 (hK.out _ _ trivial (fun _ => ?_))
              clear hK K
              (try simp only [List.getElem_toArray, List.getElem_cons_succ, List.getElem_cons_zero, Act.put, List.setIfInBounds_toArray, List.set_cons_zero, List.set_cons_succ])
              refine wpAnyH_ready (rs := [11]) (by kernel_rfl) (by simp) ?_
              refine AllReadyH.cons (o := _) rfl (fun K hK => ?_) AllReadyH.nil
              obtain ⟨v9w010014, W9w010014, haw010014, o9w010014, x9w010014⟩ := APP3.out W7w01013 x7w01013 _ _ _ o7w01013 (by omega)
              refine step_append_run (by rfl) _ _ 55 (by rfl) v7w01013 _ (by first | rfl | (rw [World.size_alloc]; rfl)) (by first | rfl | (rw [World.size_alloc]; rfl)) haw010014 (hK.out _ _ trivial (fun _ => ?_))
              clear hK K
              (try simp only [List.getElem_toArray, List.getElem_cons_succ, List.getElem_cons_zero, Act.put, List.setIfInBounds_toArray, List.set_cons_zero, List.set_cons_succ])
              refine wpAnyH_take (i := 12) (oi := _) (v := ?vw0100015) rfl (by kernel_rfl) (by kernel_rfl) (by kernel_rfl) (fun _ _ _ h => h) (Or.inl ⟨by rfl, ?yw0100015⟩) trivial ?rw0100015
              case yw0100015 => (intro w hSw; go_simp; try with_reducible rfl)
              (try simp only [List.getElem_toArray, List.getElem_cons_succ, List.getElem_cons_zero, Act.put, List.setIfInBounds_toArray, List.set_cons_zero, List.set_cons_succ])
              refine wpAnyH_done (by kernel_rfl) ?_ _
              have OO := Lib.hid o9w010014
              have XX := Lib.hid x9w010014
              go_wp2
              go_ret
              exact ⟨_, rfl, DONE.out _ _ OO.out, CHG.out _ XX.out⟩
          · (try simp only [List.getElem_toArray, List.getElem_cons_succ, List.getElem_cons_zero])
            go_simp
            refine hK.out _ _ trivial (fun _ => ?_)
            clear hK K
            (try simp only [List.getElem_toArray, List.getElem_cons_succ, List.getElem_cons_zero, Act.put, List.setIfInBounds_toArray, List.set_cons_zero, List.set_cons_succ])
            refine wpAnyH_ready (rs := [0]) (by kernel_rfl) (by simp) ?_
            refine AllReadyH.cons (o := _) rfl (fun K hK => ?_) AllReadyH.nil
            (try simp only [List.getElem_toArray, List.getElem_cons_succ, List.getElem_cons_zero])
            go_simp
            refine hK.out _ _ trivial (fun _ => ?_)
            clear hK K
            (try simp only [List.getElem_toArray, List.getElem_cons_succ, List.getElem_cons_zero, Act.put, List.setIfInBounds_toArray, List.set_cons_zero, List.set_cons_succ])
            refine wpAnyH_ready (rs := [4]) (by kernel_rfl) (by simp) ?_
            refine AllReadyH.cons (o := _) rfl (fun K hK => ?_) AllReadyH.nil
            obtain ⟨v4w1016, W4w1016, haw1016, o4w1016, x4w1016, z4w1016⟩ := APP1.out ((w1.alloc (.cells #[.string (strBd s)] 9)).alloc (.cells #[] 9)) ((((X1).trans (chg_alloc _ _ _) (fun _ _ h => h))).trans (chg_alloc _ _ _) (fun _ _ h => h)) _ _ _ (World.ownsRow_made (e := 9) (size := 1) (base := w.heap.size) (w1.alloc (.cells #[.string (strBd s)] 9)) #[] 0 (((X1).trans (chg_alloc _ _ _) (fun _ _ h => h))).size (Nat.zero_le _) (by simp)) (by omega)
            refine step_append_run (by rfl) _ _ 55 (by rfl) (.slice (some ⟨(w1.alloc (.cells #[.string (strBd s)] 9)).heap.size, 0, none⟩) 0 0) (.slice (some ⟨b, o, none⟩) t c) (by first | rfl | (rw [World.size_alloc]; rfl)) (by first | rfl | (rw [World.size_alloc]; rfl)) haw1016 (hK.out _ _ trivial (fun _ => ?_))
            clear hK K
            (try simp only [List.getElem_toArray, List.getElem_cons_succ, List.getElem_cons_zero, Act.put, List.setIfInBounds_toArray, List.set_cons_zero, List.set_cons_succ])
            refine wpAnyH_ready (rs := [7]) (by kernel_rfl) (by simp) ?_
            refine AllReadyH.cons (o := _) rfl (fun K hK => ?_) AllReadyH.nil
            obtain ⟨v7w10017, W7w10017, haw10017, o7w10017, x7w10017⟩ := APP2.out W4w1016 x4w1016 _ _ _ o4w1016 (by omega) (w1.heap.size) (z4w1016 (w1.heap.size) [.string (strBd s)] (by simp [Value.ownBlock]) (((Ext.refl (w1.alloc (.cells #[.string (strBd s)] 9))).alloc _).cells (cellsAt_new w1 [.string (strBd s)] 9)))
            refine step_append_run (by rfl) _ _ 55 (by rfl) v4w1016 (.slice (some ⟨w1.heap.size, 0, none⟩) 1 1) (by first | rfl | (rw [World.size_alloc]; rfl)) (by first | rfl | (rw [World.size_alloc]; rfl)) haw10017 (hK.out _ _ trivial (fun _ => ?_))
            clear hK K
            (try simp only [List.getElem_toArray, List.getElem_cons_succ, List.getElem_cons_zero, Act.put, List.setIfInBounds_toArray, List.set_cons_zero, List.set_cons_succ])
            refine wpAnyH_ready (rs := [11]) (by kernel_rfl) (by simp) ?_
            refine AllReadyH.cons (o := _) rfl (fun K hK => ?_) AllReadyH.nil
            obtain ⟨v9w100018, W9w100018, haw100018, o9w100018, x9w100018⟩ := APP3.out W7w10017 x7w10017 _ _ _ o7w10017 (by omega)
            refine step_append_run (by rfl) _ _ 55 (by rfl) v7w10017 _ (by first | rfl | (rw [World.size_alloc]; rfl)) (by first | rfl | (rw [World.size_alloc]; rfl)) haw100018 (hK.out _ _ trivial (fun _ => ?_))
            clear hK K
            (try simp only [List.getElem_toArray, List.getElem_cons_succ, List.getElem_cons_zero, Act.put, List.setIfInBounds_toArray, List.set_cons_zero, List.set_cons_succ])
            refine wpAnyH_take (i := 12) (oi := _) (v := ?vw1000019) rfl (by kernel_rfl) (by kernel_rfl) (by kernel_rfl) (fun _ _ _ h => h) (Or.inl ⟨by rfl, ?yw1000019⟩) trivial ?rw1000019
            case yw1000019 => (intro w hSw; go_simp; try with_reducible rfl)
            (try simp only [List.getElem_toArray, List.getElem_cons_succ, List.getElem_cons_zero, Act.put, List.setIfInBounds_toArray, List.set_cons_zero, List.set_cons_succ])
            refine wpAnyH_done (by kernel_rfl) ?_ _
            have OO := Lib.hid o9w100018
            have XX := Lib.hid x9w100018
            go_wp2
            go_ret
            exact ⟨_, rfl, DONE.out _ _ OO.out, CHG.out _ XX.out⟩
end Go.Proofs.Ytfeomnkgkppdlaa
