/- The reference's Clean, Both and Less. -/
import Derived.Test.YtfeomnkgkppdlaaTlLaw
set_option linter.unusedVariables false
set_option linter.unusedSimpArgs false
namespace Go.Proofs.Ytfeomnkgkppdlaa
open Go Go.RowKit Go.Sort Go.Lib Go.Deep
attribute [local go_sem ↓] run_size24 run_size49 run_size25
attribute [local simp high] run_size24x run_size49x run_size25x
theorem info4 : (Try.prog.info? 4).map (fun i => (i.zero, i.size, i.bytes)) = some (some (.bool false), 1, 1) := by kernel_rfl
theorem new1 (w : World) (b : Bool) : ∀ ad, some (⟨w.heap.size, 0, none⟩ : Addr) = some ad → ∀ j u, [Value.bool b][j]? = some u → (w.alloc (.cells #[.bool b] 4)).cell? (ad.add j) = some u := by
  rintro ad e j u hj
  cases e
  rw [Addr.add_lit]
  exact cellsAt_new w [.bool b] 4 j u hj
theorem bools_next {w : World} {B n : Nat} {v : Value} {cuts : List Bd} {f : Key → Bool} {t : Nat} {b : Bool} (h : w.ownsRow B 4 1 v (n + 1) (boolsV (insL cuts f t) ++ [.bool b])) (hn : (insL cuts f t).length = n) (ht : t < cuts.length) (hb : f cuts[t].key = b) :
    w.ownsRow B 4 1 v (insL cuts f (t + 1)).length (boolsV (insL cuts f (t + 1))) := by
  rw [insL_next cuts f t ht, List.length_append, hn, hb]
  simpa [boolsV] using h
set_option maxHeartbeats 4000000 in
set_option maxRecDepth 100000 in
theorem cleanR_any (v : Value) (ss : List Sp) (w : World) (hs : SpansIn w v ss) (hn : ss.length ≤ 200) : Calls Try.prog 20 #[v] w fun e w' => ∃ v', e = .returned v' ∧ SpansIn w' v' (refL (fun k => hasL k ss) (bdsL ss)) ∧ Chg (fun _ => False) w w' := by
  have HS := Lib.hid hs
  go_enter Try.func20, Try.ntmps20
  have q := Lib.hid (boundsR_any v ss w hs hn)
  clear hs
  go_wp2_with fail
  refine q.out.mono ?_
  rintro e w3 ⟨v3, rfl, ST, X⟩
  have Y0 : Hid (Chg (fun _ => False) w w3) := X
  have SA := Lib.hid (HS.out.chg Y0.out (fun _ _ h => h))
  clear q X HS
  have BL : Hid ((bdsL ss).length ≤ 400) := by
    have := bds_len ss ss.length (Nat.le_refl _)
    rw [List.take_length] at this
    show _ ≤ _
    omega
  obtain ⟨hr, hN⟩ := bds_rise ss
  obtain ⟨cuts, hcu⟩ : ∃ cuts, cuts = bdsL ss := ⟨_, rfl⟩
  rw [← hcu] at ST BL hr hN
  have HCU := Lib.hid hcu
  clear hcu
  have HR := Lib.hid hr
  have HNN := Lib.hid hN
  clear hr hN
  have ST := Lib.hid ST
  obtain ⟨a3, c3, rfl, h31, h32, h33, h34⟩ := ST.out
  have H3 := Lib.hid h33
  clear h31 h32 h33 h34
  generalize hlen : cuts.length = nc at BL ST ⊢
  have LN := Lib.hid hlen
  clear hlen
  have hnc : nc ≤ 400 := BL.out
  obtain ⟨f, hf⟩ : ∃ f : Key → Bool, f = (fun k => hasL k ss) := ⟨_, rfl⟩
  have HF := Lib.hid hf
  clear hf
  go_wp2
  go_loopg [4, 5] nc (fun kx sI sJ wr => ∃ t : Nat, sJ = .int .i64 t ∧ t ≤ nc - 1 ∧ nc - t ≤ kx ∧ Aside (wr.ownsRow w3.heap.size 4 1 sI t (boolsV (insL cuts f t))) ∧ Aside (Chg (fun _ => False) w3 wr))
  case atStart => exact ⟨0, rfl, Nat.zero_le _, by omega, World.ownsRow_nil _ _ _ _, Chg.refl _ _⟩
  case round =>
    obtain ⟨t, rfl, ht, hg, OW, Y⟩ := hrel
    have OW : Hid (wr.ownsRow w3.heap.size 4 1 u4 t (boolsV (insL cuts f t))) := OW
    have Y : Hid (Chg (fun _ => False) w3 wr) := Y
    have z0 : (0 : Int) ≤ (t : Int) := by omega
    by_cases hlt : t + 1 < nc
    · have z1 : (t : Int) + 1 < (nc : Int) := by omega
      have z2 : (t : Int) < (nc : Int) := by omega
      have htl : t < cuts.length := by rw [LN.out]; omega
      obtain ⟨b0, o0, rfl, C⟩ := H3.out (by omega)
      have c1 : ∀ W, Chg (fun _ => False) wr W → W.cell? ⟨b0, o0 + t, none⟩ = some (.string (strK cuts[t].key)) := fun W X => by
        have := X.cell (Y.out.cell (C t (.string (strBd cuts[t])) (by simp [htl])) id) id
        have e : strBd cuts[t] = strK cuts[t].key := by unfold strBd; rw [rise_en HR.out t htl (by rw [LN.out]; omega)]; rfl
        rw [← e]
        exact this
      have NX := Lib.hid (fun (w : World) (B n : Nat) (v : Value) (b : Bool) h hn hb => bools_next (w := w) (B := B) (n := n) (v := v) (cuts := cuts) (f := f) (t := t) (b := b) h hn htl hb)
      have IL : Hid ((insL cuts f t).length = t) := insL_len _ _ _
      have VL : Hid ((boolsV (insL cuts f t)).length = t) := by show _ = _; rw [boolsV_length, insL_len]
      generalize insL cuts f t = ins at OW NX IL VL
      generalize cuts[t].key = k at c1 NX
      clear C
      have XX : Hid (Chg (fun _ => False) wr wr) := Chg.refl _ _
      have ck := c1 wr XX.out
      have q := Lib.hid (key_of k wr)
      unfold keyV at q
      go_wp2_with fail
      refine q.out.mono ?_
      rintro e wa0 ⟨rfl, X⟩
      have XX : Hid (Chg (fun _ => False) wr wa0) := XX.out.trans X (fun _ _ h => h)
      clear q X ck
      have q := Lib.hid (hasR_any k v ss wa0 (SA.out.chg (Y.out.trans XX.out (fun _ _ h => h)) (fun _ _ h => h)) (by omega))
      unfold keyV at q
      go_wp2_with fail
      refine q.out.mono ?_
      rintro e wb0 ⟨rfl, X⟩
      have XX : Hid (Chg (fun _ => False) wr wb0) := XX.out.trans X (fun _ _ h => h)
      clear q X
      obtain ⟨r0, hr0⟩ : ∃ r, r = hasL k ss := ⟨_, rfl⟩
      rw [← hr0]
      have HR0 := Lib.hid hr0
      clear hr0
      clear c1
      obtain ⟨i0, hi, hz0, hz1, hz2⟩ := info_parts info4
      have OWX : Hid ((wb0.alloc (.cells #[.bool r0] 4)).ownsRow w3.heap.size 4 1 u4 t (boolsV ins)) := (XX.out.trans (chg_alloc _ _ _) (fun _ _ h => h)).owns OW.out (fun _ _ h => h)
      have N2 := Lib.hid (new1 wb0 r0)
      have N3 : Hid (∀ u ∈ [Value.bool r0], u.oneCell' = true) := fun u hu => by rw [List.mem_singleton.1 hu]; rfl
      have SZ : Hid (w3.heap.size ≤ (wb0.alloc (.cells #[.bool r0] 4)).heap.size) := by have := XX.out.size; have := Y.out.size; show _ ≤ _; rw [World.size_alloc]; omega
      go_wp2_with (at_builtin; refine wpList_append_any rfl _ _ 57 rfl w3.heap.size 4 i0 (.bool false) 1 1 Try.underlying57 hi hz0 hz1 hz2 rfl (by decide) _ _ _ rfl OWX.out (some ⟨wb0.heap.size, 0, none⟩) 1 1 [.bool r0] rfl rfl (fun h => by cases h) N2.out N3.out ?c1 ?c2 ?c3 ?_)
      case c1 => unfold maxLen; omega
      case c2 => omega
      case c3 => exact SZ.out
      intro v5 w5 hown5 hch5
      have Y5 : Hid (Chg (fun _ => False) w3 w5) := ((Y.out.trans XX.out (fun _ _ h => h)).trans (chg_alloc _ _ _) (fun _ _ h => h)).trans hch5 (fun i hi h => absurd hi (by omega))
      have OW5 := Lib.hid (NX.out w5 w3.heap.size t v5 r0 hown5 IL.out (by rw [HF.out]; show hasL k ss = _; exact HR0.out.symm))
      clear hown5 hch5 N2 N3 OWX SZ hi hz0 hz1 hz2
      go_wp2
      go_roundg (nc - (t + 1))
      case measure => omega
      case rel =>
        refine ⟨t + 1, by go_num, by omega, Nat.le_refl _, ?_, Y5.out⟩
        have o := OW5.out
        rw [insL_len] at o
        exact o
    · obtain rfl : t = nc - 1 := by omega
      have z1 : ¬ ((nc - 1 : Nat) : Int) + 1 < (nc : Int) := by omega
      have BI : BoolsIn wr u4 (insL cuts f (nc - 1)) := bools_own OW.out
      have SI : StrsIn wr (.slice a3 nc c3) cuts := ST.out.chg Y.out (fun _ _ h => h)
      have q := Lib.hid (whereR_any (.slice a3 nc c3) u4 cuts (insL cuts f (nc - 1)) wr SI BI (by rw [LN.out]; omega) (by rw [insL_len, LN.out]; omega) HNN.out (fun i hi h1 => rise_en HR.out i hi h1))
      have RF : Hid (refL f cuts = whL cuts (insL cuts f (nc - 1)) (cuts.length - 1)) := by show _ = _; unfold refL; rw [LN.out]
      clear BI SI
      go_wp2_with fail
      refine q.out.mono ?_
      rintro e w5 ⟨v5, rfl, S5, X5⟩
      have S5 := Lib.hid S5
      have Z5 : Hid (Chg (fun _ => False) w w5) := (Y0.out.trans Y.out (fun _ _ h => h)).trans X5 (fun _ _ h => h)
      clear q X5
      go_wp2
      go_ret
      have e1 := RF.out
      have e2 := S5.out
      rw [HF.out] at e1 e2
      rw [← HCU.out, e1]
      exact ⟨_, rfl, e2, Z5.out⟩
set_option maxHeartbeats 4000000 in
set_option maxRecDepth 100000 in
theorem bothR_any (va vb : Value) (xa xb : List Sp) (w : World) (ha : SpansIn w va xa) (hb : SpansIn w vb xb) (hla : xa.length ≤ 100) (hlb : xb.length ≤ 100) : Calls Try.prog 21 #[va, vb] w fun e w' => ∃ v', e = .returned v' ∧ SpansIn w' v' (refL (fun k => hasL k xa && hasL k xb) (bdsL (xa ++ xb))) ∧ Chg (fun _ => False) w w' := by
  obtain ⟨j0, hj, hy0, hy1, hy2⟩ := info_parts info28
  obtain ⟨a, c, rfl, HA, na⟩ := ha.parts
  obtain ⟨b, d, rfl, HB, nb⟩ := hb.parts
  have HA := Lib.hid HA
  have HB := Lib.hid HB
  have NA := Lib.hid na
  have NB := Lib.hid nb
  clear na nb ha hb
  have N1 : Hid ((flat spanCells xa).length = xa.length * 49) := flat_length spanCells_length xa
  have M1 : Hid ((flat spanCells xb).length = xb.length * 49) := flat_length spanCells_length xb
  have N3 : Hid (∀ u ∈ flat spanCells xa, u.oneCell' = true) := flat_one spanCells_one xa
  have M3 : Hid (∀ u ∈ flat spanCells xb, u.oneCell' = true) := flat_one spanCells_one xb
  have XA : Hid (Chg (fun _ => False) w (w.alloc (.cells #[] 28))) := chg_alloc _ _ _
  have HA1 := Lib.hid (HA.out.chg XA.out (fun _ _ h => h))
  have own0 := Lib.hid (World.ownsRow_made (e := 28) (size := 49) (base := w.heap.size) w #[] 0 (Nat.le_refl _) (Nat.zero_le _) (by simp))
  have LJ : Hid ((xa ++ xb).length ≤ 200) := by show _ ≤ _; rw [List.length_append]; omega
  generalize hn : xa.length = n at HA HA1 NA N1 hla
  generalize hm : xb.length = m at HB NB M1 hlb
  have HN := Lib.hid hn
  have HM := Lib.hid hm
  clear hn hm
  go_enter Try.func21, Try.ntmps21
  go_wp2_with (at_builtin; refine wpList_append_any rfl _ _ 22 rfl w.heap.size 28 j0 (.agg (spanCells zeroSp).toArray) 49 49 Try.underlying22 hj hy0 hy1 hy2 rfl (by decide) _ _ _ rfl own0.out a n c (flat spanCells xa) rfl N1.out NA.out HA1.out.news N3.out ?c1 ?c2 ?c3 ?_)
  case c1 => unfold maxLen; omega
  case c2 => omega
  case c3 => simp
  intro v1 w1 hown1 hch1
  have X1 : Hid (Chg (fun _ => False) w w1) := XA.out.trans hch1 (fun i hi h => absurd hi (by omega))
  have HB1 := Lib.hid (HB.out.chg X1.out (fun _ _ h => h))
  have own1 : Hid (w1.ownsRow w.heap.size 28 49 v1 n (flat spanCells xa)) := by
    show w1.ownsRow w.heap.size 28 49 v1 n (flat spanCells xa)
    simpa using hown1
  have sz1 : w.heap.size ≤ w1.heap.size := X1.out.size
  clear hown1 hch1 own0 HA1 N1 N3 NA XA
  go_wp2_with (at_builtin; refine wpList_append_any rfl _ _ 22 rfl w.heap.size 28 j0 (.agg (spanCells zeroSp).toArray) 49 49 Try.underlying22 hj hy0 hy1 hy2 rfl (by decide) _ _ _ rfl own1.out b m d (flat spanCells xb) rfl M1.out NB.out HB1.out.news M3.out ?c4 ?c5 ?c6 ?_)
  case c4 => unfold maxLen; omega
  case c5 => omega
  case c6 => exact sz1
  intro v2 w2 hown2 hch2
  have X2 : Hid (Chg (fun _ => False) w w2) := X1.out.trans hch2 (fun i hi h => absurd hi (by omega))
  have SJ : Hid (SpansIn w2 v2 (xa ++ xb)) := spansIn_ownA hown2 (flat_append xa xb).symm
  have q := Lib.hid (boundsR_any v2 (xa ++ xb) w2 SJ.out LJ.out)
  clear hown2 hch2 own1 X1 HB1 M1 M3 NB sz1 SJ hj hy0 hy1 hy2
  go_wp2_with fail
  refine q.out.mono ?_
  rintro e w3 ⟨v3, rfl, ST, X⟩
  have Y0 : Hid (Chg (fun _ => False) w w3) := X2.out.trans X (fun _ _ h => h)
  have SA := Lib.hid (HA.out.chg Y0.out (fun _ _ h => h))
  have SB := Lib.hid (HB.out.chg Y0.out (fun _ _ h => h))
  clear q X HA HB X2
  have BL : Hid ((bdsL (xa ++ xb)).length ≤ 400) := by
    have := bds_len (xa ++ xb) (xa ++ xb).length (Nat.le_refl _)
    rw [List.take_length] at this
    have := LJ.out
    show _ ≤ _
    omega
  obtain ⟨hr, hN⟩ := bds_rise (xa ++ xb)
  obtain ⟨cuts, hcu⟩ : ∃ cuts, cuts = bdsL (xa ++ xb) := ⟨_, rfl⟩
  rw [← hcu] at ST BL hr hN
  have HCU := Lib.hid hcu
  clear hcu
  have HR := Lib.hid hr
  have HNN := Lib.hid hN
  clear hr hN
  have ST := Lib.hid ST
  obtain ⟨a3, c3, rfl, h31, h32, h33, h34⟩ := ST.out
  have H3 := Lib.hid h33
  clear h31 h32 h33 h34
  generalize hlen : cuts.length = nc at BL ST ⊢
  have LN := Lib.hid hlen
  clear hlen
  have hnc : nc ≤ 400 := BL.out
  obtain ⟨f, hf⟩ : ∃ f : Key → Bool, f = (fun k => hasL k xa && hasL k xb) := ⟨_, rfl⟩
  have HF := Lib.hid hf
  clear hf
  go_wp2
  go_loopg [6, 7] nc (fun kx sI sJ wr => ∃ t : Nat, sJ = .int .i64 t ∧ t ≤ nc - 1 ∧ nc - t ≤ kx ∧ Aside (wr.ownsRow w3.heap.size 4 1 sI t (boolsV (insL cuts f t))) ∧ Aside (Chg (fun _ => False) w3 wr))
  case atStart => exact ⟨0, rfl, Nat.zero_le _, by omega, World.ownsRow_nil _ _ _ _, Chg.refl _ _⟩
  case round =>
    obtain ⟨t, rfl, ht, hg, OW, Y⟩ := hrel
    have OW : Hid (wr.ownsRow w3.heap.size 4 1 u6 t (boolsV (insL cuts f t))) := OW
    have Y : Hid (Chg (fun _ => False) w3 wr) := Y
    have z0 : (0 : Int) ≤ (t : Int) := by omega
    by_cases hlt : t + 1 < nc
    · have z1 : (t : Int) + 1 < (nc : Int) := by omega
      have z2 : (t : Int) < (nc : Int) := by omega
      have htl : t < cuts.length := by rw [LN.out]; omega
      obtain ⟨b0, o0, rfl, C⟩ := H3.out (by omega)
      have c1 : ∀ W, Chg (fun _ => False) wr W → W.cell? ⟨b0, o0 + t, none⟩ = some (.string (strK cuts[t].key)) := fun W X => by
        have := X.cell (Y.out.cell (C t (.string (strBd cuts[t])) (by simp [htl])) id) id
        have e : strBd cuts[t] = strK cuts[t].key := by unfold strBd; rw [rise_en HR.out t htl (by rw [LN.out]; omega)]; rfl
        rw [← e]
        exact this
      have NX := Lib.hid (fun (w : World) (B n : Nat) (v : Value) (b : Bool) h hn hb => bools_next (w := w) (B := B) (n := n) (v := v) (cuts := cuts) (f := f) (t := t) (b := b) h hn htl hb)
      have IL : Hid ((insL cuts f t).length = t) := insL_len _ _ _
      have VL : Hid ((boolsV (insL cuts f t)).length = t) := by show _ = _; rw [boolsV_length, insL_len]
      generalize insL cuts f t = ins at OW NX IL VL
      generalize cuts[t].key = k at c1 NX
      clear C
      have XX : Hid (Chg (fun _ => False) wr wr) := Chg.refl _ _
      have ck := c1 wr XX.out
      have q := Lib.hid (key_of k wr)
      unfold keyV at q
      go_wp2_with fail
      refine q.out.mono ?_
      rintro e wa0 ⟨rfl, X⟩
      have XX : Hid (Chg (fun _ => False) wr wa0) := XX.out.trans X (fun _ _ h => h)
      clear q X ck
      have q := Lib.hid (hasR_any k (.slice a n c) xa wa0 (SA.out.chg (Y.out.trans XX.out (fun _ _ h => h)) (fun _ _ h => h)) (by have := HN.out; have := HM.out; omega))
      unfold keyV at q
      go_wp2_with fail
      refine q.out.mono ?_
      rintro e wb0 ⟨rfl, X⟩
      have XX : Hid (Chg (fun _ => False) wr wb0) := XX.out.trans X (fun _ _ h => h)
      clear q X
      obtain ⟨r0, hr0⟩ : ∃ r, r = hasL k xa := ⟨_, rfl⟩
      rw [← hr0]
      have HR0 := Lib.hid hr0
      clear hr0
      have ck := c1 wb0 XX.out
      have q := Lib.hid (key_of k wb0)
      unfold keyV at q
      go_wp2_with fail
      refine q.out.mono ?_
      rintro e wa1 ⟨rfl, X⟩
      have XX : Hid (Chg (fun _ => False) wr wa1) := XX.out.trans X (fun _ _ h => h)
      clear q X ck
      have q := Lib.hid (hasR_any k (.slice b m d) xb wa1 (SB.out.chg (Y.out.trans XX.out (fun _ _ h => h)) (fun _ _ h => h)) (by have := HN.out; have := HM.out; omega))
      unfold keyV at q
      go_wp2_with fail
      refine q.out.mono ?_
      rintro e wb1 ⟨rfl, X⟩
      have XX : Hid (Chg (fun _ => False) wr wb1) := XX.out.trans X (fun _ _ h => h)
      clear q X
      obtain ⟨r1, hr1⟩ : ∃ r, r = hasL k xb := ⟨_, rfl⟩
      rw [← hr1]
      have HR1 := Lib.hid hr1
      clear hr1
      clear c1
      cases r0 with
      | true =>
        obtain ⟨i0, hi, hz0, hz1, hz2⟩ := info_parts info4
        have OWX : Hid ((wb1.alloc (.cells #[.bool r1] 4)).ownsRow w3.heap.size 4 1 u6 t (boolsV ins)) := (XX.out.trans (chg_alloc _ _ _) (fun _ _ h => h)).owns OW.out (fun _ _ h => h)
        have N2 := Lib.hid (new1 wb1 r1)
        have N3 : Hid (∀ u ∈ [Value.bool r1], u.oneCell' = true) := fun u hu => by rw [List.mem_singleton.1 hu]; rfl
        have SZ : Hid (w3.heap.size ≤ (wb1.alloc (.cells #[.bool r1] 4)).heap.size) := by have := XX.out.size; have := Y.out.size; show _ ≤ _; rw [World.size_alloc]; omega
        go_wp2_with (at_builtin; refine wpList_append_any rfl _ _ 57 rfl w3.heap.size 4 i0 (.bool false) 1 1 Try.underlying57 hi hz0 hz1 hz2 rfl (by decide) _ _ _ rfl OWX.out (some ⟨wb1.heap.size, 0, none⟩) 1 1 [.bool r1] rfl rfl (fun h => by cases h) N2.out N3.out ?c1 ?c2 ?c3 ?_)
        case c1 => unfold maxLen; omega
        case c2 => omega
        case c3 => exact SZ.out
        intro v5 w5 hown5 hch5
        have Y5 : Hid (Chg (fun _ => False) w3 w5) := ((Y.out.trans XX.out (fun _ _ h => h)).trans (chg_alloc _ _ _) (fun _ _ h => h)).trans hch5 (fun i hi h => absurd hi (by omega))
        have OW5 := Lib.hid (NX.out w5 w3.heap.size t v5 r1 hown5 IL.out (by rw [HF.out]; show (hasL k xa && hasL k xb) = _; rw [← HR0.out, ← HR1.out]; rfl))
        clear hown5 hch5 N2 N3 OWX SZ hi hz0 hz1 hz2
        go_wp2
        go_roundg (nc - (t + 1))
        case measure => omega
        case rel =>
          refine ⟨t + 1, by go_num, by omega, Nat.le_refl _, ?_, Y5.out⟩
          have o := OW5.out
          rw [insL_len] at o
          exact o
      | false =>
        obtain ⟨i0, hi, hz0, hz1, hz2⟩ := info_parts info4
        have OWX : Hid ((wb1.alloc (.cells #[.bool false] 4)).ownsRow w3.heap.size 4 1 u6 t (boolsV ins)) := (XX.out.trans (chg_alloc _ _ _) (fun _ _ h => h)).owns OW.out (fun _ _ h => h)
        have N2 := Lib.hid (new1 wb1 false)
        have N3 : Hid (∀ u ∈ [Value.bool false], u.oneCell' = true) := fun u hu => by rw [List.mem_singleton.1 hu]; rfl
        have SZ : Hid (w3.heap.size ≤ (wb1.alloc (.cells #[.bool false] 4)).heap.size) := by have := XX.out.size; have := Y.out.size; show _ ≤ _; rw [World.size_alloc]; omega
        go_wp2_with (at_builtin; refine wpList_append_any rfl _ _ 57 rfl w3.heap.size 4 i0 (.bool false) 1 1 Try.underlying57 hi hz0 hz1 hz2 rfl (by decide) _ _ _ rfl OWX.out (some ⟨wb1.heap.size, 0, none⟩) 1 1 [.bool false] rfl rfl (fun h => by cases h) N2.out N3.out ?c1 ?c2 ?c3 ?_)
        case c1 => unfold maxLen; omega
        case c2 => omega
        case c3 => exact SZ.out
        intro v5 w5 hown5 hch5
        have Y5 : Hid (Chg (fun _ => False) w3 w5) := ((Y.out.trans XX.out (fun _ _ h => h)).trans (chg_alloc _ _ _) (fun _ _ h => h)).trans hch5 (fun i hi h => absurd hi (by omega))
        have OW5 := Lib.hid (NX.out w5 w3.heap.size t v5 false hown5 IL.out (by rw [HF.out]; show (hasL k xa && hasL k xb) = _; rw [← HR0.out]; rfl))
        clear hown5 hch5 N2 N3 OWX SZ hi hz0 hz1 hz2
        go_wp2
        go_roundg (nc - (t + 1))
        case measure => omega
        case rel =>
          refine ⟨t + 1, by go_num, by omega, Nat.le_refl _, ?_, Y5.out⟩
          have o := OW5.out
          rw [insL_len] at o
          exact o
    · obtain rfl : t = nc - 1 := by omega
      have z1 : ¬ ((nc - 1 : Nat) : Int) + 1 < (nc : Int) := by omega
      have BI : BoolsIn wr u6 (insL cuts f (nc - 1)) := bools_own OW.out
      have SI : StrsIn wr (.slice a3 nc c3) cuts := ST.out.chg Y.out (fun _ _ h => h)
      have q := Lib.hid (whereR_any (.slice a3 nc c3) u6 cuts (insL cuts f (nc - 1)) wr SI BI (by rw [LN.out]; omega) (by rw [insL_len, LN.out]; omega) HNN.out (fun i hi h1 => rise_en HR.out i hi h1))
      have RF : Hid (refL f cuts = whL cuts (insL cuts f (nc - 1)) (cuts.length - 1)) := by show _ = _; unfold refL; rw [LN.out]
      clear BI SI
      go_wp2_with fail
      refine q.out.mono ?_
      rintro e w5 ⟨v5, rfl, S5, X5⟩
      have S5 := Lib.hid S5
      have Z5 : Hid (Chg (fun _ => False) w w5) := (Y0.out.trans Y.out (fun _ _ h => h)).trans X5 (fun _ _ h => h)
      clear q X5
      go_wp2
      go_ret
      have e1 := RF.out
      have e2 := S5.out
      rw [HF.out] at e1 e2
      rw [← HCU.out, e1]
      exact ⟨_, rfl, e2, Z5.out⟩
set_option maxHeartbeats 4000000 in
set_option maxRecDepth 100000 in
theorem lessR_any (va vb : Value) (xa xb : List Sp) (w : World) (ha : SpansIn w va xa) (hb : SpansIn w vb xb) (hla : xa.length ≤ 100) (hlb : xb.length ≤ 100) : Calls Try.prog 22 #[va, vb] w fun e w' => ∃ v', e = .returned v' ∧ SpansIn w' v' (refL (fun k => hasL k xa && !hasL k xb) (bdsL (xa ++ xb))) ∧ Chg (fun _ => False) w w' := by
  obtain ⟨j0, hj, hy0, hy1, hy2⟩ := info_parts info28
  obtain ⟨a, c, rfl, HA, na⟩ := ha.parts
  obtain ⟨b, d, rfl, HB, nb⟩ := hb.parts
  have HA := Lib.hid HA
  have HB := Lib.hid HB
  have NA := Lib.hid na
  have NB := Lib.hid nb
  clear na nb ha hb
  have N1 : Hid ((flat spanCells xa).length = xa.length * 49) := flat_length spanCells_length xa
  have M1 : Hid ((flat spanCells xb).length = xb.length * 49) := flat_length spanCells_length xb
  have N3 : Hid (∀ u ∈ flat spanCells xa, u.oneCell' = true) := flat_one spanCells_one xa
  have M3 : Hid (∀ u ∈ flat spanCells xb, u.oneCell' = true) := flat_one spanCells_one xb
  have XA : Hid (Chg (fun _ => False) w (w.alloc (.cells #[] 28))) := chg_alloc _ _ _
  have HA1 := Lib.hid (HA.out.chg XA.out (fun _ _ h => h))
  have own0 := Lib.hid (World.ownsRow_made (e := 28) (size := 49) (base := w.heap.size) w #[] 0 (Nat.le_refl _) (Nat.zero_le _) (by simp))
  have LJ : Hid ((xa ++ xb).length ≤ 200) := by show _ ≤ _; rw [List.length_append]; omega
  generalize hn : xa.length = n at HA HA1 NA N1 hla
  generalize hm : xb.length = m at HB NB M1 hlb
  have HN := Lib.hid hn
  have HM := Lib.hid hm
  clear hn hm
  go_enter Try.func22, Try.ntmps22
  go_wp2_with (at_builtin; refine wpList_append_any rfl _ _ 22 rfl w.heap.size 28 j0 (.agg (spanCells zeroSp).toArray) 49 49 Try.underlying22 hj hy0 hy1 hy2 rfl (by decide) _ _ _ rfl own0.out a n c (flat spanCells xa) rfl N1.out NA.out HA1.out.news N3.out ?c1 ?c2 ?c3 ?_)
  case c1 => unfold maxLen; omega
  case c2 => omega
  case c3 => simp
  intro v1 w1 hown1 hch1
  have X1 : Hid (Chg (fun _ => False) w w1) := XA.out.trans hch1 (fun i hi h => absurd hi (by omega))
  have HB1 := Lib.hid (HB.out.chg X1.out (fun _ _ h => h))
  have own1 : Hid (w1.ownsRow w.heap.size 28 49 v1 n (flat spanCells xa)) := by
    show w1.ownsRow w.heap.size 28 49 v1 n (flat spanCells xa)
    simpa using hown1
  have sz1 : w.heap.size ≤ w1.heap.size := X1.out.size
  clear hown1 hch1 own0 HA1 N1 N3 NA XA
  go_wp2_with (at_builtin; refine wpList_append_any rfl _ _ 22 rfl w.heap.size 28 j0 (.agg (spanCells zeroSp).toArray) 49 49 Try.underlying22 hj hy0 hy1 hy2 rfl (by decide) _ _ _ rfl own1.out b m d (flat spanCells xb) rfl M1.out NB.out HB1.out.news M3.out ?c4 ?c5 ?c6 ?_)
  case c4 => unfold maxLen; omega
  case c5 => omega
  case c6 => exact sz1
  intro v2 w2 hown2 hch2
  have X2 : Hid (Chg (fun _ => False) w w2) := X1.out.trans hch2 (fun i hi h => absurd hi (by omega))
  have SJ : Hid (SpansIn w2 v2 (xa ++ xb)) := spansIn_ownA hown2 (flat_append xa xb).symm
  have q := Lib.hid (boundsR_any v2 (xa ++ xb) w2 SJ.out LJ.out)
  clear hown2 hch2 own1 X1 HB1 M1 M3 NB sz1 SJ hj hy0 hy1 hy2
  go_wp2_with fail
  refine q.out.mono ?_
  rintro e w3 ⟨v3, rfl, ST, X⟩
  have Y0 : Hid (Chg (fun _ => False) w w3) := X2.out.trans X (fun _ _ h => h)
  have SA := Lib.hid (HA.out.chg Y0.out (fun _ _ h => h))
  have SB := Lib.hid (HB.out.chg Y0.out (fun _ _ h => h))
  clear q X HA HB X2
  have BL : Hid ((bdsL (xa ++ xb)).length ≤ 400) := by
    have := bds_len (xa ++ xb) (xa ++ xb).length (Nat.le_refl _)
    rw [List.take_length] at this
    have := LJ.out
    show _ ≤ _
    omega
  obtain ⟨hr, hN⟩ := bds_rise (xa ++ xb)
  obtain ⟨cuts, hcu⟩ : ∃ cuts, cuts = bdsL (xa ++ xb) := ⟨_, rfl⟩
  rw [← hcu] at ST BL hr hN
  have HCU := Lib.hid hcu
  clear hcu
  have HR := Lib.hid hr
  have HNN := Lib.hid hN
  clear hr hN
  have ST := Lib.hid ST
  obtain ⟨a3, c3, rfl, h31, h32, h33, h34⟩ := ST.out
  have H3 := Lib.hid h33
  clear h31 h32 h33 h34
  generalize hlen : cuts.length = nc at BL ST ⊢
  have LN := Lib.hid hlen
  clear hlen
  have hnc : nc ≤ 400 := BL.out
  obtain ⟨f, hf⟩ : ∃ f : Key → Bool, f = (fun k => hasL k xa && !hasL k xb) := ⟨_, rfl⟩
  have HF := Lib.hid hf
  clear hf
  go_wp2
  go_loopg [6, 7] nc (fun kx sI sJ wr => ∃ t : Nat, sJ = .int .i64 t ∧ t ≤ nc - 1 ∧ nc - t ≤ kx ∧ Aside (wr.ownsRow w3.heap.size 4 1 sI t (boolsV (insL cuts f t))) ∧ Aside (Chg (fun _ => False) w3 wr))
  case atStart => exact ⟨0, rfl, Nat.zero_le _, by omega, World.ownsRow_nil _ _ _ _, Chg.refl _ _⟩
  case round =>
    obtain ⟨t, rfl, ht, hg, OW, Y⟩ := hrel
    have OW : Hid (wr.ownsRow w3.heap.size 4 1 u6 t (boolsV (insL cuts f t))) := OW
    have Y : Hid (Chg (fun _ => False) w3 wr) := Y
    have z0 : (0 : Int) ≤ (t : Int) := by omega
    by_cases hlt : t + 1 < nc
    · have z1 : (t : Int) + 1 < (nc : Int) := by omega
      have z2 : (t : Int) < (nc : Int) := by omega
      have htl : t < cuts.length := by rw [LN.out]; omega
      obtain ⟨b0, o0, rfl, C⟩ := H3.out (by omega)
      have c1 : ∀ W, Chg (fun _ => False) wr W → W.cell? ⟨b0, o0 + t, none⟩ = some (.string (strK cuts[t].key)) := fun W X => by
        have := X.cell (Y.out.cell (C t (.string (strBd cuts[t])) (by simp [htl])) id) id
        have e : strBd cuts[t] = strK cuts[t].key := by unfold strBd; rw [rise_en HR.out t htl (by rw [LN.out]; omega)]; rfl
        rw [← e]
        exact this
      have NX := Lib.hid (fun (w : World) (B n : Nat) (v : Value) (b : Bool) h hn hb => bools_next (w := w) (B := B) (n := n) (v := v) (cuts := cuts) (f := f) (t := t) (b := b) h hn htl hb)
      have IL : Hid ((insL cuts f t).length = t) := insL_len _ _ _
      have VL : Hid ((boolsV (insL cuts f t)).length = t) := by show _ = _; rw [boolsV_length, insL_len]
      generalize insL cuts f t = ins at OW NX IL VL
      generalize cuts[t].key = k at c1 NX
      clear C
      have XX : Hid (Chg (fun _ => False) wr wr) := Chg.refl _ _
      have ck := c1 wr XX.out
      have q := Lib.hid (key_of k wr)
      unfold keyV at q
      go_wp2_with fail
      refine q.out.mono ?_
      rintro e wa0 ⟨rfl, X⟩
      have XX : Hid (Chg (fun _ => False) wr wa0) := XX.out.trans X (fun _ _ h => h)
      clear q X ck
      have q := Lib.hid (hasR_any k (.slice a n c) xa wa0 (SA.out.chg (Y.out.trans XX.out (fun _ _ h => h)) (fun _ _ h => h)) (by have := HN.out; have := HM.out; omega))
      unfold keyV at q
      go_wp2_with fail
      refine q.out.mono ?_
      rintro e wb0 ⟨rfl, X⟩
      have XX : Hid (Chg (fun _ => False) wr wb0) := XX.out.trans X (fun _ _ h => h)
      clear q X
      obtain ⟨r0, hr0⟩ : ∃ r, r = hasL k xa := ⟨_, rfl⟩
      rw [← hr0]
      have HR0 := Lib.hid hr0
      clear hr0
      have ck := c1 wb0 XX.out
      have q := Lib.hid (key_of k wb0)
      unfold keyV at q
      go_wp2_with fail
      refine q.out.mono ?_
      rintro e wa1 ⟨rfl, X⟩
      have XX : Hid (Chg (fun _ => False) wr wa1) := XX.out.trans X (fun _ _ h => h)
      clear q X ck
      have q := Lib.hid (hasR_any k (.slice b m d) xb wa1 (SB.out.chg (Y.out.trans XX.out (fun _ _ h => h)) (fun _ _ h => h)) (by have := HN.out; have := HM.out; omega))
      unfold keyV at q
      go_wp2_with fail
      refine q.out.mono ?_
      rintro e wb1 ⟨rfl, X⟩
      have XX : Hid (Chg (fun _ => False) wr wb1) := XX.out.trans X (fun _ _ h => h)
      clear q X
      obtain ⟨r1, hr1⟩ : ∃ r, r = hasL k xb := ⟨_, rfl⟩
      rw [← hr1]
      have HR1 := Lib.hid hr1
      clear hr1
      clear c1
      cases r0 with
      | true =>
        obtain ⟨i0, hi, hz0, hz1, hz2⟩ := info_parts info4
        have OWX : Hid ((wb1.alloc (.cells #[.bool (!r1)] 4)).ownsRow w3.heap.size 4 1 u6 t (boolsV ins)) := (XX.out.trans (chg_alloc _ _ _) (fun _ _ h => h)).owns OW.out (fun _ _ h => h)
        have N2 := Lib.hid (new1 wb1 (!r1))
        have N3 : Hid (∀ u ∈ [Value.bool (!r1)], u.oneCell' = true) := fun u hu => by rw [List.mem_singleton.1 hu]; rfl
        have SZ : Hid (w3.heap.size ≤ (wb1.alloc (.cells #[.bool (!r1)] 4)).heap.size) := by have := XX.out.size; have := Y.out.size; show _ ≤ _; rw [World.size_alloc]; omega
        go_wp2_with (at_builtin; refine wpList_append_any rfl _ _ 57 rfl w3.heap.size 4 i0 (.bool false) 1 1 Try.underlying57 hi hz0 hz1 hz2 rfl (by decide) _ _ _ rfl OWX.out (some ⟨wb1.heap.size, 0, none⟩) 1 1 [.bool (!r1)] rfl rfl (fun h => by cases h) N2.out N3.out ?c1 ?c2 ?c3 ?_)
        case c1 => unfold maxLen; omega
        case c2 => omega
        case c3 => exact SZ.out
        intro v5 w5 hown5 hch5
        have Y5 : Hid (Chg (fun _ => False) w3 w5) := ((Y.out.trans XX.out (fun _ _ h => h)).trans (chg_alloc _ _ _) (fun _ _ h => h)).trans hch5 (fun i hi h => absurd hi (by omega))
        have OW5 := Lib.hid (NX.out w5 w3.heap.size t v5 (!r1) hown5 IL.out (by rw [HF.out]; show (hasL k xa && !hasL k xb) = _; rw [← HR0.out, ← HR1.out]; rfl))
        clear hown5 hch5 N2 N3 OWX SZ hi hz0 hz1 hz2
        go_wp2
        go_roundg (nc - (t + 1))
        case measure => omega
        case rel =>
          refine ⟨t + 1, by go_num, by omega, Nat.le_refl _, ?_, Y5.out⟩
          have o := OW5.out
          rw [insL_len] at o
          exact o
      | false =>
        obtain ⟨i0, hi, hz0, hz1, hz2⟩ := info_parts info4
        have OWX : Hid ((wb1.alloc (.cells #[.bool false] 4)).ownsRow w3.heap.size 4 1 u6 t (boolsV ins)) := (XX.out.trans (chg_alloc _ _ _) (fun _ _ h => h)).owns OW.out (fun _ _ h => h)
        have N2 := Lib.hid (new1 wb1 false)
        have N3 : Hid (∀ u ∈ [Value.bool false], u.oneCell' = true) := fun u hu => by rw [List.mem_singleton.1 hu]; rfl
        have SZ : Hid (w3.heap.size ≤ (wb1.alloc (.cells #[.bool false] 4)).heap.size) := by have := XX.out.size; have := Y.out.size; show _ ≤ _; rw [World.size_alloc]; omega
        go_wp2_with (at_builtin; refine wpList_append_any rfl _ _ 57 rfl w3.heap.size 4 i0 (.bool false) 1 1 Try.underlying57 hi hz0 hz1 hz2 rfl (by decide) _ _ _ rfl OWX.out (some ⟨wb1.heap.size, 0, none⟩) 1 1 [.bool false] rfl rfl (fun h => by cases h) N2.out N3.out ?c1 ?c2 ?c3 ?_)
        case c1 => unfold maxLen; omega
        case c2 => omega
        case c3 => exact SZ.out
        intro v5 w5 hown5 hch5
        have Y5 : Hid (Chg (fun _ => False) w3 w5) := ((Y.out.trans XX.out (fun _ _ h => h)).trans (chg_alloc _ _ _) (fun _ _ h => h)).trans hch5 (fun i hi h => absurd hi (by omega))
        have OW5 := Lib.hid (NX.out w5 w3.heap.size t v5 false hown5 IL.out (by rw [HF.out]; show (hasL k xa && !hasL k xb) = _; rw [← HR0.out]; rfl))
        clear hown5 hch5 N2 N3 OWX SZ hi hz0 hz1 hz2
        go_wp2
        go_roundg (nc - (t + 1))
        case measure => omega
        case rel =>
          refine ⟨t + 1, by go_num, by omega, Nat.le_refl _, ?_, Y5.out⟩
          have o := OW5.out
          rw [insL_len] at o
          exact o
    · obtain rfl : t = nc - 1 := by omega
      have z1 : ¬ ((nc - 1 : Nat) : Int) + 1 < (nc : Int) := by omega
      have BI : BoolsIn wr u6 (insL cuts f (nc - 1)) := bools_own OW.out
      have SI : StrsIn wr (.slice a3 nc c3) cuts := ST.out.chg Y.out (fun _ _ h => h)
      have q := Lib.hid (whereR_any (.slice a3 nc c3) u6 cuts (insL cuts f (nc - 1)) wr SI BI (by rw [LN.out]; omega) (by rw [insL_len, LN.out]; omega) HNN.out (fun i hi h1 => rise_en HR.out i hi h1))
      have RF : Hid (refL f cuts = whL cuts (insL cuts f (nc - 1)) (cuts.length - 1)) := by show _ = _; unfold refL; rw [LN.out]
      clear BI SI
      go_wp2_with fail
      refine q.out.mono ?_
      rintro e w5 ⟨v5, rfl, S5, X5⟩
      have S5 := Lib.hid S5
      have Z5 : Hid (Chg (fun _ => False) w w5) := (Y0.out.trans Y.out (fun _ _ h => h)).trans X5 (fun _ _ h => h)
      clear q X5
      go_wp2
      go_ret
      have e1 := RF.out
      have e2 := S5.out
      rw [HF.out] at e1 e2
      rw [← HCU.out, e1]
      exact ⟨_, rfl, e2, Z5.out⟩
end Go.Proofs.Ytfeomnkgkppdlaa
