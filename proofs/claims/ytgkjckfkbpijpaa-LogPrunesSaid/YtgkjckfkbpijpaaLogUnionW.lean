/- The walk of LogUnion. -/
import Derived.Test.YtgkjckfkbpijpaaLogCauseW
import Derived.Laws.AppendOwnNone
set_option linter.unusedVariables false
set_option linter.unusedSimpArgs false
namespace Go.Proofs.Ytgkjckfkbpijpaa
open Go Go.RowKit Go.Sort Go.Lib
attribute [local go_sem ↓] run_size24 run_size49
attribute [local simp high] run_size24x run_size49x

/-- append of any slice onto a row of the call's own -/
theorem wpList_append_any {P : Program} {w : World} {ops : Array Oper} {rest : List Oper} {o : Oper} {a : Act} {Q : Exit → Act → World → Prop} (hgd : o.guard = none) (s x : Operand) (t : TypeId)
    (ho : o.op = .call { callee := .builtin .append, args := #[s, x], argTypes := #[t, t] })
    (base : Nat) (e : TypeId) (i : TypeInfo) (z : Value) (size bytes : Nat) (ht : P.underlying t = some (.slice e)) (hi : P.info? e = some i) (hz : i.zero = some z)
    (hsize : i.size = size) (hby : i.bytes = bytes) (hzs : z.cells.size = size) (hsz : 0 < size)
    (v : Value) (n : Nat) (xs : List Value) (hs : a.eval s = v) (hown : w.ownsRow base e size v n xs)
    (ao : Option Addr) (m c : Nat) (news : List Value) (hx : a.eval x = .slice ao m c) (hl : news.length = m * size) (hn : ao = none → m = 0 ∧ c = 0) (hnews : ∀ ad, ao = some ad → ∀ j u, news[j]? = some u → w.cell? (ad.add j) = some u) (h1 : ∀ u ∈ news, u.oneCell' = true)
    (h63 : n + m ≤ maxLen) (hbytes : (n + m) * bytes ≤ 140737488355328) (hbase : base ≤ w.heap.size)
    (h : ∀ v' w', w'.ownsRow base e size v' (n + m) (xs ++ news) → Chg (fun i => base ≤ i) w w' → wpList P ops Q rest (a.put o.dst v') w') : wpList P ops Q (o :: rest) a w := by
  cases ao with
  | none =>
    obtain ⟨rfl, rfl⟩ := hn rfl
    have e0 : news = [] := List.eq_nil_of_length_eq_zero (by rw [hl]; simp)
    subst e0
    exact wpList_append_own_none hgd s x t ho base e i size ht hi v n xs hs hown hx (h v w (by simpa using hown) (Chg.refl _ _))
  | some ad =>
    exact wpList_append_own w hgd s x t ho base e i z size bytes ht hi hz hsize hby hzs hsz v n xs hs hown ad m c news hx hl (hnews ad rfl) h1 h63 hbytes hbase
      fun v' w' h2 h3 _ => h v' w' h2 (h3.chg.mono fun j _ hj => (hown.lt j hj.symm.symm).1)

theorem info26 : (Try.prog.info? 26).map (fun i => (i.zero, i.size, i.bytes)) = some (some (.agg (spanCells zeroSp).toArray), 49, 49) := by kernel_rfl
theorem cut10 (a : Option Addr) (n c : Nat) (hc : n ≤ c) (W : World) : (Instr.sliceAt 36 (.slice a n c) none (some (.int .i64 (min (n : Int) 10))) none).run Try.prog W = .ok (.slice a (min n 10) c) W :=
  cut_min 36 26 Try.underlying36 49 Try.sizeOf26 a n c hc 10 W
theorem cause_append (kss : List (List Key)) (q n : Nat) (xs ys : List Sp) : cause kss q n (xs ++ ys) = (cause kss q n xs || cause kss q n ys) := by
  unfold cause
  rw [Bool.eq_iff_iff, Bool.or_eq_true, List.any_eq_true, List.any_eq_true, List.any_eq_true]
  simp only [List.any_append, Bool.or_eq_true]
  exact ⟨fun ⟨x, h1, h2⟩ => h2.imp (fun h => ⟨x, h1, h⟩) (fun h => ⟨x, h1, h⟩), fun h => h.elim (fun ⟨x, h1, h2⟩ => ⟨x, h1, .inl h2⟩) (fun ⟨x, h1, h2⟩ => ⟨x, h1, .inr h2⟩)⟩
theorem spansIn_ext {w w' : World} {v : Value} {ss : List Sp} (h : SpansIn w v ss) (X : Ext w w') : SpansIn w' v ss := by
  obtain ⟨a, c, e, h⟩ := h
  exact ⟨a, c, e, fun hp => let ⟨b, o, e, hr⟩ := h hp; ⟨b, o, e, RowAt.ext (enc := spanCells) (k := K49) hr X⟩⟩
theorem spanCells_ne (s : Sp) : spanCells s ≠ [] := fun h => by have := spanCells_length s; rw [h] at this; simp at this
theorem spansIn_chg {w w' : World} {S : Nat → Prop} {v : Value} {ss : List Sp} (h : SpansIn w v ss) (X : Chg S w w') (hS : ∀ i, i < w.heap.size → ¬ S i) : SpansIn w' v ss := by
  obtain ⟨a, c, e, h⟩ := h
  exact ⟨a, c, e, fun hp => let ⟨b, o, e, hr⟩ := h hp; ⟨b, o, e, fun j hj => X.cells (hr j hj) (hS b ((hr j hj).lt (spanCells_ne _)))⟩⟩
theorem spansIn_take {w : World} {a : Option Addr} {c : Nat} {ss : List Sp} (h : 0 < ss.length → ∃ b o, a = some ⟨b, o, none⟩ ∧ RowAt spanCells K49 w b o ss) (n : Nat) : SpansIn w (.slice a (min ss.length n) c) (ss.take n) :=
  ⟨a, c, by rw [List.length_take, Nat.min_comm], fun hp => by
    have hp' : 0 < ss.length := by rw [List.length_take] at hp; omega
    obtain ⟨b, o, e, hr⟩ := h hp'
    exact ⟨b, o, e, RowAt.take (enc := spanCells) (k := K49) hr n⟩⟩
/-- the cells of a slice of spans, where it lies -/
theorem spansIn_news {w : World} {a : Option Addr} {n c : Nat} {ss : List Sp} (h : SpansIn w (.slice a n c) ss) : ∀ ad, a = some ad → ∀ j u, (flat spanCells ss)[j]? = some u → w.cell? (ad.add j) = some u := by
  obtain ⟨a', c', e, h⟩ := h
  simp only [Value.slice.injEq] at e
  obtain ⟨rfl, rfl, rfl⟩ := e
  rintro ad rfl j u hj
  have hp : 0 < ss.length := by
    cases ss with
    | nil => simp [flat] at hj
    | cons _ _ => simp
  obtain ⟨b, o, e, hr⟩ := h hp
  cases e
  rw [Addr.add_lit]
  exact RowAt.flat (enc := spanCells) (k := K49) spanCells_length hr j u hj
theorem spansIn_owned {w : World} {base n : Nat} {v : Value} {ss : List Sp} (h : w.ownsRow base 26 49 v n (flat spanCells ss)) (hn : n = ss.length) : SpansIn w v ss := by
  subst hn
  rcases owns_shape h with ⟨rfl, h0⟩ | ⟨g, cap, rfl, _⟩
  · exact ⟨none, 0, by rw [h0], fun hp => absurd hp (by omega)⟩
  · exact ⟨some ⟨g, 0, none⟩, cap, rfl, fun _ => ⟨g, 0, rfl, rowAt_of_flat (enc := spanCells) (k := K49) spanCells_length (owns_cells h rfl)⟩⟩

set_option maxHeartbeats 4000000 in
set_option maxRecDepth 100000 in
theorem logUnion_any (w : World) (ca : Option Addr) (ccap : Nat) (cvs : List Value) (kss : List (List Key)) (aa ba : Option Addr) (acap bcap : Nat) (xa xb : List Sp) (since : Int)
    (hc : 0 < kss.length → ∃ b off, ca = some ⟨b, off, none⟩ ∧ ComsIn w b off cvs kss) (hb : kss.length ≤ 9223372036854775807)
    (ha : 0 < xa.length → ∃ b o, aa = some ⟨b, o, none⟩ ∧ RowAt spanCells K49 w b o xa) (hac : xa.length ≤ acap) (han : aa = none → xa.length = 0 ∧ acap = 0)
    (hB : 0 < xb.length → ∃ b o, ba = some ⟨b, o, none⟩ ∧ RowAt spanCells K49 w b o xb) (hbc : xb.length ≤ bcap) (hbn : ba = none → xb.length = 0 ∧ bcap = 0) :
    Calls Try.prog 5 #[.slice ca kss.length ccap, .slice aa xa.length acap, .slice ba xb.length bcap, .int .i64 since] w fun e w' => e = .returned (.bool true) ∧ Below w.heap.size w w' := by
  have k1 : ¬ K24 = 0 := by decide
  have k2 : ¬ K49 = 0 := by decide
  obtain ⟨i0, hi, hz0, hz1, hz2⟩ := info_parts info26
  have HC := Lib.hid hc
  have SA := Lib.hid (spansIn_take (c := acap) ha 10)
  have SB := Lib.hid (spansIn_take (c := bcap) hB 10)
  have cutA := cut10 aa xa.length acap hac
  have cutB := cut10 ba xb.length bcap hbc
  have NA : Hid (aa = none → min xa.length 10 = 0 ∧ acap = 0) := fun h => by have := han h; omega
  have NB : Hid (ba = none → min xb.length 10 = 0 ∧ bcap = 0) := fun h => by have := hbn h; omega
  have LA : Hid ((xa.take 10).length = min xa.length 10 ∧ min xa.length 10 ≤ 10) := ⟨by rw [List.length_take, Nat.min_comm], by omega⟩
  have LB : Hid ((xb.take 10).length = min xb.length 10 ∧ min xb.length 10 ≤ 10) := ⟨by rw [List.length_take, Nat.min_comm], by omega⟩
  clear hc ha hB hac hbc han hbn
  generalize hlen : kss.length = n at hb ⊢
  have HN := Lib.hid hlen
  clear hlen
  generalize xa.take 10 = xs at SA LA
  generalize xb.take 10 = ys at SB LB
  generalize xa.length = la at cutA SA NA LA ⊢
  generalize xb.length = lb at cutB SB NB LB ⊢
  generalize min la 10 = na at cutA SA NA LA
  generalize min lb 10 = nb at cutB SB NB LB
  go_enter Try.func5, Try.ntmps5
  go_wp2_with fail
  refine (shown_any _).mono ?_
  rintro e w1 ⟨rfl, X1⟩
  have X1 := Lib.hid X1
  go_wp2_with fail
  refine (new_made w1 kss).mono ?_
  rintro e w2 ⟨rfl, X2, L2⟩
  have Y2 : Hid (Chg (fun _ => False) w w2) := X1.out.trans (X2.chg _) (fun _ _ h => h)
  have L2 := Lib.hid L2
  have HP : Hid (w.heap.size ≤ w1.heap.size) := X1.out.size
  clear X1 X2
  generalize w1.heap.size = p at L2 HP ⊢
  go_upto_block 0 with fail
  go_cut [11, 12] (fun s11 s12 wx => ∃ k : Nat, s11 = .int .i64 k ∧ k = min n 30 ∧ Aside (Chg (fun j => p ≤ j) w wx) ∧ Aside (LogMade wx p kss k))
  case rest =>
    clear L2 Y2
    obtain ⟨k, rfl, hk, X, L⟩ := hcut
    have hkn : k ≤ n := by omega
    have hk30 : k ≤ 30 := by omega
    clear hk
    obtain ⟨q, hq, hqk⟩ := since_low since k
    have SA2 : Hid (SpansIn wc (.slice aa na acap) xs) := spansIn_chg SA.out X.out (fun i hi => by have := HP.out; omega)
    have SB2 : Hid (SpansIn wc (.slice ba nb bcap) ys) := spansIn_chg SB.out X.out (fun i hi => by have := HP.out; omega)
    have q1 := Lib.hid (conf_made L.out hqk SA2.out (by have := LA.out; omega))
    go_wp2_with fail
    refine q1.out.mono ?_
    rintro e w3 ⟨rfl, Z3⟩
    have Z3 := Lib.hid Z3
    clear q1
    have q2 := Lib.hid (conf_made (L.out.ext Z3.out) hqk (spansIn_ext SB2.out Z3.out) (by have := LB.out; omega))
    go_wp2_with fail
    refine q2.out.mono ?_
    rintro e w4 ⟨rfl, Z4⟩
    have Z4 : Hid (Ext wc w4) := Z3.out.trans Z4
    clear q2 Z3
    have own0 := Lib.hid (World.ownsRow_made (e := 26) (size := 49) (base := w4.heap.size) w4 #[] 0 (Nat.le_refl _) (Nat.zero_le _) (by simp))
    have N1 : Hid ((flat spanCells xs).length = na * 49) := by show _ = _; rw [flat_length spanCells_length xs, LA.out.1]
    have N2 : Hid (∀ ad, aa = some ad → ∀ j u, (flat spanCells xs)[j]? = some u → (w4.alloc (.cells #[] 26)).cell? (ad.add j) = some u) := spansIn_news (spansIn_ext SA2.out (Z4.out.alloc _))
    have N3 : Hid (∀ u ∈ flat spanCells xs, u.oneCell' = true) := flat_one spanCells_one xs
    go_wp2_with (at_builtin; refine wpList_append_any rfl _ _ 36 rfl w4.heap.size 26 i0 (.agg (spanCells zeroSp).toArray) 49 49 Try.underlying36 hi hz0 hz1 hz2 rfl (by decide) _ _ _ rfl own0.out aa na acap (flat spanCells xs) rfl N1.out NA.out N2.out N3.out ?c1 ?c2 ?c3 ?_)
    case c1 => have := LA.out; unfold maxLen; omega
    case c2 => have := LA.out; omega
    case c3 => simp
    intro v5 w5 own5 ch5
    have own5 : Hid (w5.ownsRow w4.heap.size 26 49 v5 na (flat spanCells xs)) := by show w5.ownsRow w4.heap.size 26 49 v5 na (flat spanCells xs); simpa using own5
    have C5 : Hid (Chg (fun _ => False) w4 w5) := (((Ext.refl w4).alloc _).chg (fun _ => False)).trans ch5 (fun i hi h => absurd hi (by omega))
    have HS : Hid (w4.heap.size ≤ w5.heap.size) := C5.out.size
    clear N1 N2 N3 own0 ch5
    have M1 : Hid ((flat spanCells ys).length = nb * 49) := by show _ = _; rw [flat_length spanCells_length ys, LB.out.1]
    have M2 : Hid (∀ ad, ba = some ad → ∀ j u, (flat spanCells ys)[j]? = some u → w5.cell? (ad.add j) = some u) := spansIn_news (spansIn_chg (spansIn_ext SB2.out Z4.out) C5.out (fun _ _ h => h))
    have M3 : Hid (∀ u ∈ flat spanCells ys, u.oneCell' = true) := flat_one spanCells_one ys
    go_wp2_with (at_builtin; refine wpList_append_any rfl _ _ 36 rfl w4.heap.size 26 i0 (.agg (spanCells zeroSp).toArray) 49 49 Try.underlying36 hi hz0 hz1 hz2 rfl (by decide) _ _ _ rfl own5.out ba nb bcap (flat spanCells ys) rfl M1.out NB.out M2.out M3.out ?c1 ?c2 ?c3 ?_)
    case c1 => have := LA.out; have := LB.out; unfold maxLen; omega
    case c2 => have := LA.out; have := LB.out; omega
    case c3 => exact HS.out
    intro v6 w6 own6 ch6
    have C6 : Hid (Chg (fun _ => False) wc w6) := ((Z4.out.chg (fun _ => False)).trans C5.out (fun _ _ h => h)).trans ch6 (fun i hi h => by have := Z4.out.size; omega)
    have SC : Hid (SpansIn w6 v6 (xs ++ ys)) := spansIn_owned (base := w4.heap.size) (by rw [flat_append]; exact own6) (by rw [List.length_append, LA.out.1, LB.out.1])
    clear M1 M2 M3 own5 own6 ch6
    have q3 := conf_made (L.out.kept C6.out) hqk SC.out (by have := LA.out; have := LB.out; rw [List.length_append]; omega)
    rw [cause_append] at q3
    have q3 := Lib.hid q3
    go_wp2_with fail
    refine q3.out.mono ?_
    rintro e w7 ⟨rfl, Z7⟩
    have Z7 := Lib.hid Z7
    clear q3
    generalize cause kss q k xs = bx
    generalize cause kss q k ys = bby
    have C : Hid (Below w.heap.size w w7) := by
      have C : Chg (fun j => p ≤ j) w w7 := (X.out.trans C6.out (fun _ _ h => h.elim)).trans (Z7.out.chg (fun _ => False)) (fun _ _ h => h.elim)
      exact C.below (Nat.le_refl _) (fun i hi h => by have := HP.out; omega)
    cases bx <;> cases bby <;> (go_wp2; go_ret; exact ⟨rfl, C.out⟩)
  go_wp2
  go_loopg [11, 12] 30 (fun kx s11 s12 wr => ∃ i : Nat, s11 = .int .i64 i ∧ s12 = .int .i64 i ∧ i ≤ n ∧ i ≤ 30 ∧ 30 - i ≤ kx ∧ Aside (Chg (fun j => p ≤ j) w wr) ∧ Aside (LogMade wr p kss i))
  case atStart => exact ⟨0, rfl, rfl, Nat.zero_le _, Nat.zero_le _, by omega, Y2.out.mono (fun _ _ h => h.elim), L2.out⟩
  case round =>
    clear L2 Y2
    obtain ⟨i, rfl, rfl, hin, hi30, hg, X, L⟩ := hrel
    by_cases hlt : i < n
    · by_cases hl3 : i < 30
      · have hik : i < kss.length := by have := HN.out; omega
        obtain ⟨cb, co, rfl, CI⟩ := HC.out (by omega)
        have hiv : i < cvs.length := by rw [CI.len]; exact hik
        have hcb : cb < w.heap.size := block_lt_of_cell (CI.cell i hiv)
        have hlow : cb < p := by have := HP.out; omega
        obtain ⟨ia, ic, hv, hic, hkeys⟩ := (CI.keys i hiv hik).cut 20
        have c1 : wr.cell? ⟨cb, co + i, none⟩ = some (.slice ia kss[i].length ic) := by
          rw [← hv]; exact X.out.cell (CI.cell i hiv) (show ¬ p ≤ cb by omega)
        have hkw : ∀ W, Ext wr W → KeysIn W (.slice ia (min kss[i].length 20) ic) (kss[i].take 20) := fun W hW => by
          refine KeysIn.ext (w := wr) ?_ hW
          obtain ⟨a', c', e, hk⟩ := hkeys
          exact ⟨a', c', e, fun hp => let ⟨b, o, e', hr⟩ := hk hp; ⟨b, o, e', fun j hj => X.out.cells (hr j hj) (by have := (hr j hj).lt (keyCells_ne _); have := HP.out; omega)⟩⟩
        have add := fun W (hW : Ext wr W) => add_made (L.out.ext hW) hik hl3 (hkw W hW)
        have cut := cut20 ia kss[i].length ic hic
        have HCI := Lib.hid CI
        have A := Lib.hid add
        clear CI hv hkeys hkw add
        generalize kss[i].length = m at c1 cut A hic
        go_wp2
        have z1 : (0 : Int) ≤ (i : Int) := Int.natCast_nonneg _
        have z2 : (i : Int) < (n : Int) := by omega
        go_region_held3 (fun w' => w'.cell? ⟨cb, co + i, none⟩ = some (.slice ia m ic)) (first | go_keep | exact k3) (first | (go_at_call 9; refine (A.out _ ((Ext.refl wr).drew)).mono ?_; rintro e w3 ⟨rfl, L3, X3⟩; have k3 := X3.cell c1 (show ¬ p ≤ cb by omega); have L3 := Lib.hid L3; have X3 := Lib.hid X3))
        go_wp2
        go_roundg (30 - (i + 1))
        case measure => omega
        case rel => exact ⟨i + 1, by go_num, by go_num, by omega, by omega, Nat.le_refl _, X.out.drew.trans X3.out (fun _ _ h => h), L3.out⟩
      · have hd : decide ((i : Int) < 30) = false := by simp; omega
        go_wp2_with fail
        go_meet
        exact ⟨i, rfl, by omega, X, L⟩
    · go_wp2_with fail
      go_meet
      exact ⟨i, rfl, by omega, X, L⟩
end Go.Proofs.Ytgkjckfkbpijpaa
