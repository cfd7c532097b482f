/- The walks of rest, Less and Touch. -/
import Derived.Test.YtfeomnkgkppdlaaSpBothW
set_option linter.unusedVariables false
set_option linter.unusedSimpArgs false
namespace Go.Proofs.Ytfeomnkgkppdlaa
open Go Go.RowKit Go.Sort Go.Lib
attribute [local go_sem ↓] run_size24 run_size49 run_size25
attribute [local simp high] run_size24x run_size49x run_size25x
attribute [local go_sem ↓] to_span1 to_span2 to_span3 to_key1 to_spans1 to_keys1 to_bd0 to_bd1
attribute [local simp] is_bFrEn is_bTo is_bEn is_bFrTo is_bSpans1 is_bKeys1 run_bFrEn run_bTo run_bEn run_bFrTo run_bSpans1 run_bKeys1 is_bBdKey is_bBdEn is_bSp3 run_bBdKey run_bBdEn run_bBd0 run_bSp3

/-- the same, told with the row's own block -/
theorem wpList_append_any2 {P : Program} {w : World} {ops : Array Oper} {rest : List Oper} {o : Oper} {a : Act} {Q : Exit → Act → World → Prop} (hgd : o.guard = none) (s x : Operand) (t : TypeId)
    (ho : o.op = .call { callee := .builtin .append, args := #[s, x], argTypes := #[t, t] })
    (base : Nat) (e : TypeId) (i : TypeInfo) (z : Value) (size bytes : Nat) (ht : P.underlying t = some (.slice e)) (hi : P.info? e = some i) (hz : i.zero = some z)
    (hsize : i.size = size) (hby : i.bytes = bytes) (hzs : z.cells.size = size) (hsz : 0 < size)
    (v : Value) (n : Nat) (xs : List Value) (hs : a.eval s = v) (hown : w.ownsRow base e size v n xs)
    (ao : Option Addr) (m c : Nat) (news : List Value) (hx : a.eval x = .slice ao m c) (hl : news.length = m * size) (hn : ao = none → m = 0 ∧ c = 0) (hnews : ∀ ad, ao = some ad → ∀ j u, news[j]? = some u → w.cell? (ad.add j) = some u) (h1 : ∀ u ∈ news, u.oneCell' = true)
    (h63 : n + m ≤ maxLen) (hbytes : (n + m) * bytes ≤ 140737488355328) (hbase : base ≤ w.heap.size)
    (h : ∀ v' w', w'.ownsRow base e size v' (n + m) (xs ++ news) → Chg (fun i => v.ownBlock = some i) w w' → wpList P ops Q rest (a.put o.dst v') w') : wpList P ops Q (o :: rest) a w := by
  cases ao with
  | none =>
    obtain ⟨rfl, rfl⟩ := hn rfl
    have e0 : news = [] := List.eq_nil_of_length_eq_zero (by rw [hl]; simp)
    subst e0
    exact wpList_append_own_none hgd s x t ho base e i size ht hi v n xs hs hown hx (h v w (by simpa using hown) (Chg.refl _ _))
  | some ad =>
    exact wpList_append_own w hgd s x t ho base e i z size bytes ht hi hz hsize hby hzs hsz v n xs hs hown ad m c news hx hl (hnews ad rfl) h1 h63 hbytes hbase
      fun v' w' h2 h3 _ => h v' w' h2 h3.chg

/-- what rest computes -/
def restL : Bd → List Sp → List Sp
  | a, [] => if a.en then [] else [madeS a ⟨zeroKey, true⟩]
  | a, s :: r => pieceS a (fromB s) ++ restL (toB s) r
theorem restL_length : ∀ (ss : List Sp) (a : Bd), (restL a ss).length ≤ ss.length + 1
  | [], a => by unfold restL; split <;> simp
  | s :: r, a => by
    rw [restL, List.length_append]
    have := pieceS_length a (fromB s)
    have := restL_length r (toB s)
    simp only [List.length_cons]
    omega
theorem SpansIn.loads {w : World} {v : Value} {ss : List Sp} (h : SpansIn w v ss) (hp : 0 < ss.length) : ∃ b o c, v = .slice (some ⟨b, o, none⟩) ss.length c ∧ ∀ j (hj : j < ss.length), CellsAt w b (o + j * 49) (spanCells ss[j]) := by
  obtain ⟨a, c, rfl, hc, hr, hn⟩ := h
  obtain ⟨b, o, rfl, hr2⟩ := hr hp
  exact ⟨b, o, c, rfl, hr2⟩

set_option maxHeartbeats 4000000 in
set_option maxRecDepth 100000 in
theorem rest_any (v : Value) (ss : List Sp) (w : World) (h : SpansIn w v ss) (hb : ss.length ≤ 1000) :
    Calls Try.prog 36 #[v] w fun e w' => ∃ v', e = .returned v' ∧ SpansIn w' v' (restL zeroBd ss) ∧ Chg (fun _ => False) w w' := by
  have mixed := Try.mixed
  have k1 : ¬ K24 = 0 := by decide
  have k2 : ¬ K49 = 0 := by decide
  have k3 : ¬ K25 = 0 := by decide
  have k4 : (25 = K25) = True := by decide
  have k5 : (49 = K49) = True := by decide
  obtain ⟨i0, hi, hz0, hz1, hz2⟩ := info_parts info28
  have sl1 : ∀ x, (bdCells x).length = 25 := bdCells_length
  have sl2 : ∀ x, ¬ (bdCells x).length ≠ K25 := fun x => by rw [sl1]; decide
  have sl3 : ∀ x, (spanCells x).length = 49 := spanCells_length
  have sl4 : ∀ x, ¬ (spanCells x).length ≠ K49 := fun x => by rw [sl3]; decide
  have HS := Lib.hid h
  obtain ⟨a0, c0, rfl⟩ := h.length
  clear h
  have RL : Hid ((restL zeroBd ss).length ≤ ss.length + 1) := restL_length ss zeroBd
  generalize hn : ss.length = n at hb HS RL ⊢
  have HN := Lib.hid hn
  clear hn
  have st0 := fun cs (h : cs.size = 25) => store_last Try.prog (bdCells zeroBd) (bdCells_one _) w cs 43 (by rw [h, bdCells_length])
  have A0 : Hid (BdAt (w.alloc (.cells (bdCells zeroBd).toArray 43)) w.heap.size zeroBd) := heap_alloc_new w _
  have CA0 : Hid (Chg (fun _ => False) w (w.alloc (.cells (bdCells zeroBd).toArray 43))) := chg_alloc w _ _
  generalize hz : zeroBd = z at st0 A0 RL CA0 ⊢
  have HZ := Lib.hid hz
  have rz := fun w => run_bBd0 w
  rw [hz] at rz
  clear hz
  go_enter Try.func36, Try.ntmps36
  go_wp2
  go_loopg [3, 12] n (fun kx s3 s12 wr => ∃ (j : Nat) (outs : List Sp) (a : Bd), s12 = .int .i64 j ∧ j ≤ n ∧ n - j ≤ kx ∧ Aside (BdAt wr w.heap.size a) ∧ Aside (restL z ss = outs ++ restL a (ss.drop j)) ∧ outs.length ≤ j ∧ Aside (wr.ownsRow (w.heap.size + 1) 28 49 s3 outs.length (flat spanCells outs)) ∧ Aside (Chg (fun _ => False) w wr))
  case atStart => exact ⟨0, [], z, rfl, Nat.zero_le _, by omega, A0.out, rfl, Nat.le_refl _, ⟨rfl, .inl ⟨rfl, rfl⟩⟩, CA0.out⟩
  case round =>
    obtain ⟨j, outs, a, rfl, hjn, hg, AT, RE, hol, OWN, Y⟩ := hrel
    by_cases hlt : j < n
    · have hj : j < ss.length := by have := HN.out; omega
      obtain ⟨x, hx⟩ : ∃ x, x = ss[j] := ⟨_, rfl⟩
      have SW : Hid (SpansIn wr (.slice a0 n c0) ss) := HS.out.chg Y.out (fun _ _ h => h)
      obtain ⟨b, o, c1, e, hl⟩ := SW.out.loads (by omega)
      simp only [Value.slice.injEq] at e
      obtain ⟨rfl, hnn, rfl⟩ := e
      clear hnn
      have l1 : Sem.run Try.prog (loadCellsFrom ⟨b, o + j * K49, none⟩ 0 K49 #[]) wr = .ok (spanCells x).toArray wr := by rw [hx]; exact (hl j hj).load _ K49 (spanCells_length _)
      have RS : Hid (restL z ss = (outs ++ pieceS a (fromB x)) ++ restL (toB x) (ss.drop (j + 1))) := by
        show _ = _; rw [RE.out, List.drop_eq_getElem_cons hj, restL, ← hx, List.append_assoc]
      clear hl hx
      have st := fun cs (h : cs.size = 49) => store_last Try.prog (spanCells x) (spanCells_one _) wr cs 28 (by rw [h, spanCells_length])
      have l2 := span_load x wr
      have bo := Lib.hid (bounds_any x (wr.alloc (.cells (spanCells x).toArray 28)))
      unfold spanV bdV at bo
      clear st0 rz
      go_wp2_with fail
      refine bo.out.mono ?_
      rintro e wa ⟨rfl, Xa⟩
      have Xa : Hid (Ext wr wa) := ((Ext.refl wr).alloc _).trans Xa
      clear bo st l1 l2
      have sa := fun x c1 c2 => (two_store x wa c1 c2).1
      have sb := fun x c1 c2 => (two_store x wa c1 c2).2
      have B7 := Lib.hid (bdAt_two wa (fromB x) (toB x)).1
      have B8 := Lib.hid (bdAt_two wa (fromB x) (toB x)).2
      have Xb : Hid (Ext wr ((wa.alloc (.cells (bdCells (fromB x)).toArray 43)).alloc (.cells (bdCells (toB x)).toArray 43))) := (Xa.out.alloc _).alloc _
      have AT1 := Lib.hid (AT.out.ext Xb.out)
      have l4 := AT1.out.load
      have l7 := B7.out.load
      have co := Lib.hid (compare_any a (fromB x) ((wa.alloc (.cells (bdCells (fromB x)).toArray 43)).alloc (.cells (bdCells (toB x)).toArray 43)))
      unfold bdV at co
      have AW : Hid (w.heap.size < wa.heap.size) := by have := AT.out.lt; have := Xa.out.size; show _ < _; omega
      go_wp2_with fail
      refine co.out.mono ?_
      rintro e wz ⟨rfl, Xe⟩
      have AT1 := Lib.hid (AT1.out.ext Xe)
      have B7 := Lib.hid (B7.out.ext Xe)
      have B8 := Lib.hid (B8.out.ext Xe)
      have Xe : Hid (Ext wr wz) := Xb.out.trans Xe
      have CZ : Hid (Chg (fun _ => False) w wz) := Y.out.trans (Xe.out.chg _) (fun _ _ h => h)
      have OZ := Lib.hid ((Xe.out.chg fun _ => False).owns OWN.out (fun _ _ h => h))
      clear co sa sb l4 l7 Xa Xb
      have PS : Hid (pieceS a (fromB x) = if cmpB a (fromB x) < 0 then [madeS a (fromB x)] else []) := rfl
      generalize hcf : cmpB a (fromB x) = cg at PS ⊢
      clear hcf
      have Nm1 := Lib.hid hol
      go_upto_if 24 with fail
      go_cut [3] (fun s3 wx => Aside (wx.ownsRow (w.heap.size + 1) 28 49 s3 (outs ++ pieceS a (fromB x)).length (flat spanCells (outs ++ pieceS a (fromB x)))) ∧ Aside (BdAt wx w.heap.size a) ∧ Aside (BdAt wx (wa.heap.size + 1) (toB x)) ∧ Aside (Chg (fun _ => False) w wx))
      case first =>
        by_cases hc : cg < 0
        · have l4 := AT1.out.load
          have l7 := B7.out.load
          have ma := Lib.hid (made_any a (fromB x) wz)
          unfold spanV bdV at ma
          go_wp2_with fail
          refine ma.out.mono ?_
          rintro e w7 ⟨rfl, X5⟩
          have X5 := Lib.hid X5
          clear ma
          have OW := Lib.hid ((X5.out.alloc (.cells (spanCells (madeS a (fromB x))).toArray 28)).chg (fun _ => False) |>.owns OZ.out (fun _ _ h => h))
          have N1 : Hid ((spanCells (madeS a (fromB x))).length = 1 * 49) := spanCells_length _
          have N2 : Hid (∀ ad, some (⟨w7.heap.size, 0, none⟩ : Addr) = some ad → ∀ j u, (spanCells (madeS a (fromB x)))[j]? = some u → (w7.alloc (.cells (spanCells (madeS a (fromB x))).toArray 28)).cell? (ad.add j) = some u) := by
            rintro ad e j u hj
            cases e
            rw [Addr.add_lit]
            exact cellsAt_new w7 (spanCells (madeS a (fromB x))) 28 j u hj
          go_wp2_with (at_builtin; refine wpList_append_any2 rfl _ _ 22 rfl (w.heap.size + 1) 28 i0 (.agg (spanCells zeroSp).toArray) 49 49 Try.underlying22 hi hz0 hz1 hz2 rfl (by decide) _ _ _ rfl OW.out (some ⟨w7.heap.size, 0, none⟩) 1 1 (spanCells (madeS a (fromB x))) rfl N1.out (fun h => by cases h) N2.out (spanCells_one _) ?c1 ?c2 ?c3 ?_)
          case c1 => have := Nm1.out; unfold maxLen; omega
          case c2 => have := Nm1.out; omega
          case c3 => have h5 := X5.out.size; have := (CZ.out).size; simp only [World.size_alloc] at h5 ⊢; omega
          intro v6 w8 own6 ch6
          have own6 := Lib.hid own6
          have C6 : Hid (Chg (fun _ => False) w w8) := by
            have a : Chg (fun _ => False) w (w7.alloc (.cells (spanCells (madeS a (fromB x))).toArray 28)) := (CZ.out.trans (X5.out.chg fun _ => False) (fun _ _ h => h)).trans (chg_alloc _ _ _) (fun _ _ h => h)
            exact a.trans ch6 (fun i hi h => by have := (OZ.out.lt i h).1; omega)
          have A2 : BdAt (w7.alloc (.cells (spanCells (madeS a (fromB x))).toArray 28)) w.heap.size a := (AT1.out.ext X5.out).ext ((Ext.refl w7).alloc _)
          have B2 : BdAt (w7.alloc (.cells (spanCells (madeS a (fromB x))).toArray 28)) (wa.heap.size + 1) (toB x) := (B8.out.ext X5.out).ext ((Ext.refl w7).alloc _)
          have A3 := Lib.hid (A2.chg ch6 (fun h => by rcases owns_apart_block OW.out A2 (by decide) with e | e; (rw [e] at h; exact absurd h (by simp)); exact e h))
          have B3 := Lib.hid (B2.chg ch6 (fun h => by rcases owns_apart_block OW.out B2 (by decide) with e | e; (rw [e] at h; exact absurd h (by simp)); exact e h))
          clear A2 B2 N1 N2 OW ch6
          go_wp2_with fail
          go_meet
          exact ⟨by show World.ownsRow _ _ _ _ _ _ _; rw [PS.out, if_pos hc, List.length_append, flat_append]; simpa [flat] using own6.out, A3.out, B3.out, C6.out⟩
        · go_wp2_with fail
          go_meet
          exact ⟨by rw [PS.out, if_neg (by omega), List.append_nil]; exact OZ.out, AT1.out, B8.out, CZ.out⟩
      case rest =>
        obtain ⟨O3, A3, B3, C3⟩ := hcut
        obtain ⟨w9, e9, K9, C9⟩ := A3.out.put (toB x)
        have K9 := Lib.hid K9
        have C9 := Lib.hid C9
        have l8 := B3.out.load
        have O9 := Lib.hid (C9.out.owns O3.out (fun i hi h => by have := (O3.out.lt i hi).1; omega))
        have D9 : Hid (Chg (fun _ => False) w w9) := C3.out.trans C9.out (fun i hi h => by omega)
        have PL := Lib.hid (pieceS_length a (fromB x))
        go_wp2
        go_roundg (n - (j + 1))
        case measure => omega
        case rel => exact ⟨j + 1, outs ++ pieceS a (fromB x), toB x, by go_num, by omega, Nat.le_refl _, K9.out, RS.out, by rw [List.length_append]; have := PL.out; omega, O9.out, D9.out⟩
    · obtain rfl : j = n := by omega
      have E : Hid (restL z ss = outs ++ if a.en then [] else [madeS a ⟨zeroKey, true⟩]) := by
        show _ = _; rw [RE.out, List.drop_eq_nil_iff.2 (by have := HN.out; omega), restL]
      have b4 := bdEn AT.out.cells
      rw [Nat.zero_add] at b4
      have l4 := AT.out.load
      have OZ := OWN
      have Nm1 := Lib.hid hol
      clear st0
      cases hen : a.en with
      | true =>
        rw [hen] at b4
        go_wp2
        go_ret
        exact ⟨_, rfl, by rw [E.out, hen, if_pos rfl, List.append_nil]; exact spansIn_own OWN.out, Y.out⟩
      | false =>
        rw [hen] at b4
        have ma := Lib.hid (made_any a ⟨zeroKey, true⟩ wr)
        unfold spanV bdV at ma
        go_wp2_with fail
        refine ma.out.mono ?_
        rintro e w7 ⟨rfl, X5⟩
        have X5 := Lib.hid X5
        clear ma
        have OW := Lib.hid ((X5.out.alloc (.cells (spanCells (madeS a ⟨zeroKey, true⟩)).toArray 28)).chg (fun _ => False) |>.owns OWN.out (fun _ _ h => h))
        have N1 : Hid ((spanCells (madeS a ⟨zeroKey, true⟩)).length = 1 * 49) := spanCells_length _
        have N2 : Hid (∀ ad, some (⟨w7.heap.size, 0, none⟩ : Addr) = some ad → ∀ j u, (spanCells (madeS a ⟨zeroKey, true⟩))[j]? = some u → (w7.alloc (.cells (spanCells (madeS a ⟨zeroKey, true⟩)).toArray 28)).cell? (ad.add j) = some u) := by
          rintro ad e j u hj
          cases e
          rw [Addr.add_lit]
          exact cellsAt_new w7 (spanCells (madeS a ⟨zeroKey, true⟩)) 28 j u hj
        go_wp2_with (at_builtin; refine wpList_append_any2 rfl _ _ 22 rfl (w.heap.size + 1) 28 i0 (.agg (spanCells zeroSp).toArray) 49 49 Try.underlying22 hi hz0 hz1 hz2 rfl (by decide) _ _ _ rfl OW.out (some ⟨w7.heap.size, 0, none⟩) 1 1 (spanCells (madeS a ⟨zeroKey, true⟩)) rfl N1.out (fun h => by cases h) N2.out (spanCells_one _) ?c1 ?c2 ?c3 ?_)
        case c1 => have := Nm1.out; unfold maxLen; omega
        case c2 => have := Nm1.out; omega
        case c3 => have h5 := X5.out.size; have := (Y.out).size; simp only [World.size_alloc] at h5 ⊢; omega
        intro v6 w8 own6 ch6
        have own6 := Lib.hid own6
        have C6 : Hid (Chg (fun _ => False) w w8) := by
          have a : Chg (fun _ => False) w (w7.alloc (.cells (spanCells (madeS a ⟨zeroKey, true⟩)).toArray 28)) := (Y.out.trans (X5.out.chg fun _ => False) (fun _ _ h => h)).trans (chg_alloc _ _ _) (fun _ _ h => h)
          exact a.trans ch6 (fun i hi h => by have := (OWN.out.lt i h).1; omega)
        clear N1 N2 OW ch6
        go_wp2
        go_ret
        refine ⟨_, rfl, ?_, C6.out⟩
        rw [E.out, hen, if_neg (by decide)]
        exact spansIn_own (B := w.heap.size + 1) (n := outs.length + 1) (by rw [flat_append]; simpa [flat] using own6.out)
end Go.Proofs.Ytfeomnkgkppdlaa
