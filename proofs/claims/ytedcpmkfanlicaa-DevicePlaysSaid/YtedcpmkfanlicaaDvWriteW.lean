/- Write's walk. -/
import Derived.Test.YtedcpmkfanlicaaDvWrite
import Derived.Deep.RegionHeld3
set_option linter.unusedVariables false
set_option linter.unusedSimpArgs false
namespace Go.Proofs.Ytedcpmkfanlicaa
open Go Go.RowKit Go.Sort Go.Lib Go.Maps
attribute [local go_sem ↓] run_size512 run_size513
attribute [local simp high] run_size512x run_size513x

section
variable {w : World} {p mf ml nf nl : Nat} {d d1 : Dv} {G : Int → Option Blk} {lo : List (Int × Nw)}
/-- the end of Write: the copy and the store -/
theorem write_tail {wx : World} {X gb ob cb : Nat} {k : Int} {b xo : Blk} (hX : wx.heap[X]? = some (.cells (nwCells ⟨xo, sinceP lo k d.clock⟩).toArray 67 (0, 0))) (hl : xo.length = 512) (H : DevAt wx p { d with clock := clockP lo k d.clock } mf ml nf nl G lo)
    (hc : 0 ≤ d.clock) (hp : (∀ x ∈ putL lo k b d.clock, Full x.2.of) ∧ ((putL lo k b d.clock).map (·.1)).Nodup ∧ (putL lo k b d.clock).Pairwise (fun a b => a.2.since < b.2.since) ∧ ∀ x ∈ putL lo k b d.clock, 0 ≤ x.2.since ∧ x.2.since ≤ clockP lo k d.clock)
    (hb : CellsAt wx gb ob (blkCells b)) (fb : Full b) (hk : wfK k) (hn : nl < maxLen) (h1 : X ≠ p) (h2 : X ≠ mf) (h3 : X ≠ ml) :
    ∃ wC wD, (∀ ty, (Builtin.copy_ #[31, 31] ty #[.slice (some ⟨X, 0, none⟩) 512 512, .slice (some ⟨gb, ob, none⟩) 512 cb]).run Try.prog wx = .ok (goInt 512) wC) ∧ (∀ W, Chg (fun i => i = ml) wC W → W.cell? ⟨p, 2, none⟩ = some (.map (some ml))) ∧
      (∀ W, Chg (fun i => i = ml) wC W → Sem.run Try.prog (loadCellsFrom ⟨X, 0, none⟩ 0 K513 #[]) W = .ok (nwCells ⟨b, sinceP lo k d.clock⟩).toArray W) ∧ Chg (fun i => i = ml) wC wC.drew ∧ Chg (fun i => i = ml) wC wD ∧
      (Instr.mapUpdate 58 (.map (some ml)) (.int .i64 k) (.agg (nwCells ⟨b, sinceP lo k d.clock⟩).toArray)).run Try.prog wC.drew = .ok () wD ∧
      DevAt wD p { d with clock := clockP lo k d.clock } mf ml nf (nl + 1) G (putL lo k b d.clock) ∧ Chg (fun i => i = X ∨ i = ml) wx wD := by
  have lb : (blkCells b).length = 512 := by rw [blkCells_length]; exact fb.1
  have lx : (blkCells xo).length = 512 := by rw [blkCells_length]; exact hl
  have cp : ∀ ty, (Builtin.copy_ #[31, 31] ty #[.slice (some ⟨X, 0, none⟩) 512 512, .slice (some ⟨gb, ob, none⟩) 512 cb]).run Try.prog wx = .ok (goInt 512) (wx.setRow X (nwCells ⟨b, sinceP lo k d.clock⟩).toArray) := fun ty => by
    rw [run_copy_row Try.prog wx 31 31 ty 5 X 0 512 512 ⟨gb, ob, none⟩ 512 cb (nwCells ⟨xo, sinceP lo k d.clock⟩).toArray 67 (blkCells b) Try.underlying31 (by kernel_rfl) hX (by rw [lb]; rfl)
      (fun j v hj => by rw [Addr.add_lit]; exact hb j v hj) (by rw [lb]; simp [nwCells, lx]) (blkCells_one b), lb]
    congr 2
    simp only [List.take_zero, List.nil_append, nwCells, Nat.zero_add]
    rw [List.drop_append_of_le_length (by rw [lx]; exact Nat.le_refl _), List.drop_of_length_le (by rw [lx]; exact Nat.le_refl _), List.nil_append]
  have hC : (wx.setRow X (nwCells ⟨b, sinceP lo k d.clock⟩).toArray).heap[X]? = some (.cells (nwCells ⟨b, sinceP lo k d.clock⟩).toArray 67 (0, 0)) := setRow_heap wx X _ _ 67 _ hX
  have XC := chg_setRow wx X (nwCells ⟨b, sinceP lo k d.clock⟩).toArray
  have HC := H.chg XC (fun e => h1 e.symm) (fun e => h2 e.symm) (fun e => h3 e.symm)
  obtain ⟨wD, hr, M, XD0⟩ := (HC.ls.ext (Ext.refl _).drew).store hk Try.underlying58 hn (nwV ⟨b, sinceP lo k d.clock⟩)
  have XD : Chg (fun i => i = ml) (wx.setRow X (nwCells ⟨b, sinceP lo k d.clock⟩).toArray) wD := ((Ext.refl _).drew.chg (fun i => i = ml)).trans XD0 (fun _ _ h => h)
  have eM : upd (fun k => (look lo k).map nwV) k (some (nwV ⟨b, sinceP lo k d.clock⟩)) = fun y => (look (putL lo k b d.clock) y).map nwV := by
    funext y
    rw [look_putL]
    unfold upd
    split <;> rfl
  rw [eM] at M
  refine ⟨_, wD, cp, fun W Y => Y.cell (HC.cell (j := 2) rfl).1 (fun e => HC.pl e), fun W Y => (Y.cells (cellsAt_blk hC) (fun e => h3 e)).load _ K513 (nwCells_length fb.1), (Ext.refl _).drew.chg _, XD, hr, ⟨?_, HC.fl.chg XD (fun e => H.apart e), M, H.apart, H.fullF, hp.1, hp.2.1, hp.2.2.1, hp.2.2.2⟩, XC.mono (fun _ _ h => .inl h) |>.trans XD (fun _ _ h => .inr h)⟩
  rw [XD.block p HC.lt (fun e => HC.pl e)]; exact HC.blk

set_option maxHeartbeats 1000000 in
theorem write_false {v : Value} {k : Int} {Q : World → Prop} (CT : Calls Try.prog 32 #[.pointer (some ⟨p, 0, none⟩)] w fun e w' => e = .returned (.bool false) ∧ Q w') :
    Calls Try.prog 12 #[.pointer (some ⟨p, 0, none⟩), .int .i64 k, v] w fun e w' => e = .returned (.int .i64 11) ∧ Q w' := by
  have CT := Lib.hid CT
  go_enter Try.func12, Try.ntmps12
  go_wp2_with fail
  refine CT.out.mono ?_
  rintro e w1 ⟨rfl, q⟩
  go_wp2
  go_ret
  exact ⟨rfl, q⟩
set_option maxHeartbeats 1000000 in
theorem write_no {v : Value} {k e0 : Int} (CT : Calls Try.prog 32 #[.pointer (some ⟨p, 0, none⟩)] w fun e w' => e = .returned (.bool true) ∧ DevAt w' p d1 mf ml nf nl G lo ∧ Chg (fun i => i = p) w w') (he : (if d1.down then 11 else if k < 0 ∨ d1.n ≤ k then 1 else 0 : Int) = e0) (hne : e0 ≠ 0) :
    Calls Try.prog 12 #[.pointer (some ⟨p, 0, none⟩), .int .i64 k, v] w fun e w' => e = .returned (.int .i64 e0) ∧ DevAt w' p d1 mf ml nf nl G lo ∧ Chg (fun i => i = p) w w' := by
  have CT := Lib.hid CT
  have HE := Lib.hid he
  clear he
  go_enter Try.func12, Try.ntmps12
  go_wp2_with fail
  refine CT.out.mono ?_
  rintro e w1 ⟨rfl, D1, X1⟩
  have m := may_any D1 k
  rw [HE.out] at m
  have M := Lib.hid m
  have D1 := Lib.hid D1
  have X1 := Lib.hid X1
  clear m CT
  go_wp2_with fail
  refine M.out.mono ?_
  rintro e w2 ⟨rfl, hw⟩
  have hw := hw.symm
  subst hw
  go_wp2
  go_ret
  exact ⟨rfl, D1.out, X1.out⟩
set_option maxHeartbeats 2000000 in
set_option maxRecDepth 100000 in
theorem write_ok {k : Int} {gb ob cb : Nat} {b : Blk} (CT : Calls Try.prog 32 #[.pointer (some ⟨p, 0, none⟩)] w fun e w' => e = .returned (.bool true) ∧ DevAt w' p d1 mf ml nf nl G lo ∧ Chg (fun i => i = p) w w')
    (hd : d1.down = false) (h0 : 0 ≤ k) (hn : k < d1.n) (hk : wfK k) (hb : CellsAt w gb ob (blkCells b)) (hbp : gb ≠ p) (fb : Full b) (hc : 0 ≤ d1.clock ∧ d1.clock ≤ 1000000) (hnl : nl ≤ 1000000) :
    Calls Try.prog 12 #[.pointer (some ⟨p, 0, none⟩), .int .i64 k, .slice (some ⟨gb, ob, none⟩) 512 cb] w fun e w' => e = .returned (.int .i64 0) ∧ DevAt w' p { d1 with clock := clockP lo k d1.clock } mf ml nf (nl + 1) G (putL lo k b d1.clock) ∧ Chg (fun i => i = p ∨ i = ml) w w' := by
  have CT := Lib.hid CT
  have HB := Lib.hid hb
  clear hb
  go_enter Try.func12, Try.ntmps12
  go_wp2_with fail
  refine CT.out.mono ?_
  rintro e w1 ⟨rfl, D1, X1⟩
  have m := may_any D1 k
  rw [hd, if_neg (by simp), if_neg (by omega)] at m
  have M := Lib.hid m
  have D1 := Lib.hid D1
  have X1 := Lib.hid X1
  have HB := Lib.hid (X1.out.cells HB.out (fun e => hbp e))
  clear m CT
  go_wp2_with fail
  refine M.out.mono ?_
  rintro e w2 ⟨rfl, hw⟩
  have hw := hw.symm
  subst hw
  have c2 : w1.cell? ⟨p, 2, none⟩ = some (.map (some ml)) := (D1.out.cell (j := 2) rfl).1
  have k2 : ¬ K513 = 0 := by decide
  have k4 : (513 = K513) = True := by decide
  have z2 := size67
  obtain ⟨x, hx⟩ : ∃ x, x = (look lo k).getD zeroNw := ⟨_, rfl⟩
  have fx : Full x.of := by
    rw [hx]
    cases hl : look lo k with
    | none => exact full_zero
    | some u => exact D1.out.fullL _ (look_mem hl)
  have l2 : (Instr.lookup 58 (.map (some ml)) (.int .i64 k) true).run Try.prog w1 = .ok (.tuple #[.agg (nwCells x).toArray, .bool (look lo k).isSome]) w1 := by
    rw [D1.out.ls.look_ok hk Try.underlying58 (zero67 w1), hx]
    cases look lo k <;> rfl
  have sx1 : (nwCells x).length = 513 := nwCells_length fx.1
  have sx2 : ¬ (nwCells x).length ≠ K513 := by rw [sx1]; decide
  obtain ⟨wa, hwa⟩ : ∃ wa, wa = w1.alloc (.cells (nwCells x).toArray 67) := ⟨_, rfl⟩
  have s2 : ∀ cs, cs.size = 513 → Sem.run Try.prog (storeCells ⟨w1.heap.size, 0, none⟩ (nwCells x) 0) (w1.alloc (.cells cs 67)) = .ok () wa := fun cs hc => by rw [hwa]; exact store_last Try.prog (nwCells x) (nwCells_one x) w1 cs 67 (by rw [hc, sx1])
  have Xa : Hid (Ext w1 wa) := by show Ext _ _; rw [hwa]; exact (Ext.refl w1).alloc _
  have Ba : Hid (wa.heap[w1.heap.size]? = some (.cells (nwCells x).toArray 67 (0, 0))) := by show _ = _; rw [hwa]; exact heap_alloc_new w1 _
  have Da := Lib.hid (D1.out.ext Xa.out)
  have HBa := Lib.hid (Xa.out.cells HB.out)
  have a1 : Hid (w1.heap.size ≠ p) := fun e => by have := D1.out.lt; omega
  have a2 : Hid (w1.heap.size ≠ mf) := fun e => by have := D1.out.fl.lt; omega
  have a3 : Hid (w1.heap.size ≠ ml) := fun e => by have := D1.out.ls.lt; omega
  have HP := Lib.hid (putL_ok D1.out fb hc.1 (k := k))
  have YA : Hid (Chg (fun i => i = p ∨ i = ml) w wa) := (X1.out.mono (fun _ _ h => .inl h)).trans (Xa.out.chg fun _ => False) (fun _ _ h => h.elim)
  have sz : Hid (w.heap.size ≤ w1.heap.size) := X1.out.size
  have HX := Lib.hid hx
  have GBL : Hid (gb < w1.heap.size) := HB.out.lt (fun e => by have h := fb.1; rw [← blkCells_length, e] at h; simp at h)
  clear hwa hx M HB
  cases hf : (look lo k).isSome with
  | true =>
    rw [hf] at l2
    have es : Hid (sinceP lo k d1.clock = x.since) := by
      show _ = _
      rw [HX.out]; unfold sinceP
      obtain ⟨u, hu⟩ := Option.isSome_iff_exists.1 hf
      rw [hu]; rfl
    have ec : Hid (clockP lo k d1.clock = d1.clock) := by show _ = _; unfold clockP; rw [hf]; rfl
    have DX : Hid (DevAt wa p { d1 with clock := clockP lo k d1.clock } mf ml nf nl G lo) := by show DevAt _ _ _ _ _ _ _ _ _; rw [ec.out]; exact Da.out
    have BX : Hid (wa.heap[w1.heap.size]? = some (.cells (nwCells ⟨x.of, sinceP lo k d1.clock⟩).toArray 67 (0, 0))) := by show _ = _; rw [es.out]; exact Ba.out
    obtain ⟨wC, wD, t1, t2, t3, t7, t8, t4, t5, t6⟩ := write_tail (cb := cb) BX.out fx.1 DX.out hc.1 HP.out HBa.out fb hk (by unfold maxLen; omega) a1.out a2.out a3.out
    have t5 := Lib.hid t5
    have t6 := Lib.hid t6
    clear hf hc hnl h0 hn hk fb fx
    go_upto_region 13 with fail
    refine wp_region_held_drew (S := fun W => Chg (fun i => i = ml) wC W) (by kernel_rfl) t7 (fun hHeld => ?_)
    refine wpAnyH_take (i := 0) (oi := _) (v := ?vwt0) rfl (by kernel_rfl) (by kernel_rfl) (by kernel_rfl) (fun _ _ _ h => h) (Or.inl ⟨by rfl, ?ywt0⟩) (by assumption) ?rwt0
    case ywt0 => (intro w hSw; go_simp; try with_reducible rfl)
    (try simp only [List.getElem_toArray, List.getElem_cons_succ, List.getElem_cons_zero, Act.put, List.setIfInBounds_toArray, List.set_cons_zero, List.set_cons_succ])
    refine wpAnyH_take (i := 1) (oi := _) (v := ?vwt1) rfl (by kernel_rfl) (by kernel_rfl) (by kernel_rfl) (fun _ _ _ h => h) (Or.inl ⟨by rfl, ?ywt1⟩) (by assumption) ?rwt1
    case ywt1 => (intro w hSw; go_simp; try with_reducible rfl)
    (try simp only [List.getElem_toArray, List.getElem_cons_succ, List.getElem_cons_zero, Act.put, List.setIfInBounds_toArray, List.set_cons_zero, List.set_cons_succ])
    refine wpAnyH_take (i := 2) (oi := _) (v := ?vwt2) rfl (by kernel_rfl) (by kernel_rfl) (by kernel_rfl) (fun _ _ _ h => h) (Or.inl ⟨by rfl, ?ywt2⟩) (by assumption) ?rwt2
    case ywt2 => (intro w hSw; go_simp; try with_reducible rfl)
    (try simp only [List.getElem_toArray, List.getElem_cons_succ, List.getElem_cons_zero, Act.put, List.setIfInBounds_toArray, List.set_cons_zero, List.set_cons_succ])
    refine wpAnyH_take (i := 3) (oi := _) (v := ?vwt3) rfl (by kernel_rfl) (by kernel_rfl) (by kernel_rfl) (fun _ _ _ h => h) (Or.inl ⟨by rfl, ?ywt3⟩) (by assumption) ?rwt3
    case ywt3 => (intro w hSw; go_simp; try with_reducible rfl)
    (try simp only [List.getElem_toArray, List.getElem_cons_succ, List.getElem_cons_zero, Act.put, List.setIfInBounds_toArray, List.set_cons_zero, List.set_cons_succ])
    refine wpAnyH_take (i := 4) (oi := _) (v := ?vwt4) rfl (by kernel_rfl) (by kernel_rfl) (by kernel_rfl) (fun _ _ _ h => h) (Or.inl ⟨by rfl, ?ywt4⟩) (by assumption) ?rwt4
    case ywt4 => (intro w hSw; go_simp; try with_reducible rfl)
    (try simp only [List.getElem_toArray, List.getElem_cons_succ, List.getElem_cons_zero, Act.put, List.setIfInBounds_toArray, List.set_cons_zero, List.set_cons_succ])
    refine wpAnyH_take (i := 5) (oi := _) (v := ?vwt5) rfl (by kernel_rfl) (by kernel_rfl) (by kernel_rfl) (fun _ _ _ h => h) (Or.inl ⟨by rfl, ?ywt5⟩) (by assumption) ?rwt5
    case ywt5 => (intro w hSw; go_simp; try with_reducible rfl)
    (try simp only [List.getElem_toArray, List.getElem_cons_succ, List.getElem_cons_zero, Act.put, List.setIfInBounds_toArray, List.set_cons_zero, List.set_cons_succ])
    refine wpAnyH_ready (rs := [6]) (by kernel_rfl) (by simp) ?_
    refine AllReadyH.cons (o := _) rfl (fun K hK => ?_) AllReadyH.nil
    (try simp only [List.getElem_toArray, List.getElem_cons_succ, List.getElem_cons_zero])
    go_simp
    refine hK.out _ _ ?_ (fun hHeld => ?_)
    · exact t8
    clear hK K
    (try simp only [List.getElem_toArray, List.getElem_cons_succ, List.getElem_cons_zero, Act.put, List.setIfInBounds_toArray, List.set_cons_zero, List.set_cons_succ])
    refine wpAnyH_done (by kernel_rfl) ?_ _
    go_wp2
    go_ret
    exact ⟨rfl, t5.out, YA.out.trans t6.out (fun i hi h => h.elim (fun e => by have := sz.out; omega) (fun e => .inr e))⟩
  | false =>
    rw [hf] at l2
    have hx0 : x = zeroNw := by
      rw [HX.out]
      cases h : look lo k with
      | none => rfl
      | some u => rw [h] at hf; cases hf
    have es : Hid (sinceP lo k d1.clock = d1.clock + 1) := by
      show _ = _
      unfold sinceP
      cases h : look lo k with
      | none => rfl
      | some u => rw [h] at hf; cases hf
    have ec : Hid (clockP lo k d1.clock = d1.clock + 1) := by show _ = _; unfold clockP; rw [hf]; rfl
    have c4 : wa.cell? ⟨p, 4, none⟩ = some (.int .i64 d1.clock) := (Da.out.cell (j := 4) rfl).1
    have f4 : wa.frozen? ⟨p, 4, none⟩ = false := (Da.out.cell (j := 4) rfl).2
    have w4 : IntKind.i64.wrap (d1.clock + 1) = d1.clock + 1 := wrap_in _ _ (by omega) (by omega) rfl
    have X3 : Chg (fun i => i = p) wa (wa.setCell ⟨p, 4, none⟩ (.int .i64 (d1.clock + 1))) := chg_setCell wa ⟨p, 4, none⟩ _
    obtain ⟨cX, fX⟩ := cell_of_blk Ba.out (j := 512) (u := .int .i64 x.since) (by simpa using field_since x fx.1)
    obtain ⟨wy, hwy⟩ : ∃ wy, wy = (wa.setCell ⟨p, 4, none⟩ (.int .i64 (d1.clock + 1))).setCell ⟨w1.heap.size, 512, none⟩ (.int .i64 (d1.clock + 1)) := ⟨_, rfl⟩
    have B3 : (wa.setCell ⟨p, 4, none⟩ (.int .i64 (d1.clock + 1))).heap[w1.heap.size]? = some (.cells (nwCells x).toArray 67 (0, 0)) := by rw [X3.block _ (by have := Xa.out.size; exact (Array.getElem?_eq_some_iff.1 Ba.out).1) (fun e => a1.out e)]; exact Ba.out
    have BX : Hid (wy.heap[w1.heap.size]? = some (.cells (nwCells ⟨x.of, sinceP lo k d1.clock⟩).toArray 67 (0, 0))) := by
      show _ = _
      rw [hwy, heap_setCell_same _ _ 512 _ 67 _ B3, es.out]
      congr 2
      have lx : (blkCells x.of).length = 512 := by rw [blkCells_length]; exact fx.1
      rw [List.setIfInBounds_toArray]
      congr 1
      unfold nwCells
      rw [List.set_append_right _ _ (by rw [lx]; exact Nat.le_refl _), lx]
      rfl
    have D3 := Da.out.fields (d' := { d1 with clock := d1.clock + 1 }) X3 (heap_setCell_same _ p 4 _ 62 _ Da.out.blk) (by show d1.clock ≤ d1.clock + 1; omega)
    have X4 : Chg (fun i => i = w1.heap.size) (wa.setCell ⟨p, 4, none⟩ (.int .i64 (d1.clock + 1))) wy := by rw [hwy]; exact chg_setCell _ ⟨w1.heap.size, 512, none⟩ _
    have DX : Hid (DevAt wy p { d1 with clock := clockP lo k d1.clock } mf ml nf nl G lo) := by
      show DevAt _ _ _ _ _ _ _ _ _
      rw [ec.out]
      exact D3.chg X4 (fun e => a1.out e.symm) (fun e => a2.out e.symm) (fun e => a3.out e.symm)
    have X34 : Chg (fun i => i = p ∨ i = w1.heap.size) wa wy := (X3.mono (fun _ _ h => .inl h)).trans X4 (fun _ _ h => .inr h)
    have gbl := GBL.out
    have HBy := Lib.hid (X34.cells HBa.out (fun e => e.elim hbp (fun e => by omega)))
    have YA : Hid (Chg (fun i => i = p ∨ i = ml) w wy) := YA.out.trans X34 (fun i hi h => h.elim .inl (fun e => by have := sz.out; omega))
    obtain ⟨wC, wD, t1, t2, t3, t7, t8, t4, t5, t6⟩ := write_tail (cb := cb) BX.out fx.1 DX.out hc.1 HP.out HBy.out fb hk (by unfold maxLen; omega) a1.out a2.out a3.out
    have t5 := Lib.hid t5
    have t6 := Lib.hid t6
    have hwy2 := hwy.symm
    have cX' : (wa.setCell ⟨p, 4, none⟩ (.int .i64 (d1.clock + 1))).cell? ⟨w1.heap.size, 512, none⟩ = some (.int .i64 x.since) := X3.cell cX (fun e => a1.out e)
    have fX' : (wa.setCell ⟨p, 4, none⟩ (.int .i64 (d1.clock + 1))).frozen? ⟨w1.heap.size, 512, none⟩ = false := (cell_of_blk B3 (j := 512) (u := .int .i64 x.since) (by simpa using field_since x fx.1)).2
    clear hf hc hnl h0 hn hk fb fx hwy B3 D3 X3 X4 X34 hx0 gbl hbp cX fX
    go_upto_region 13 with fail
    refine wp_region_held_drew (S := fun W => Chg (fun i => i = ml) wC W) (by kernel_rfl) t7 (fun hHeld => ?_)
    refine wpAnyH_take (i := 0) (oi := _) (v := ?vwf0) rfl (by kernel_rfl) (by kernel_rfl) (by kernel_rfl) (fun _ _ _ h => h) (Or.inl ⟨by rfl, ?ywf0⟩) (by assumption) ?rwf0
    case ywf0 => (intro w hSw; go_simp; try with_reducible rfl)
    (try simp only [List.getElem_toArray, List.getElem_cons_succ, List.getElem_cons_zero, Act.put, List.setIfInBounds_toArray, List.set_cons_zero, List.set_cons_succ])
    refine wpAnyH_take (i := 1) (oi := _) (v := ?vwf1) rfl (by kernel_rfl) (by kernel_rfl) (by kernel_rfl) (fun _ _ _ h => h) (Or.inl ⟨by rfl, ?ywf1⟩) (by assumption) ?rwf1
    case ywf1 => (intro w hSw; go_simp; try with_reducible rfl)
    (try simp only [List.getElem_toArray, List.getElem_cons_succ, List.getElem_cons_zero, Act.put, List.setIfInBounds_toArray, List.set_cons_zero, List.set_cons_succ])
    refine wpAnyH_take (i := 2) (oi := _) (v := ?vwf2) rfl (by kernel_rfl) (by kernel_rfl) (by kernel_rfl) (fun _ _ _ h => h) (Or.inl ⟨by rfl, ?ywf2⟩) (by assumption) ?rwf2
    case ywf2 => (intro w hSw; go_simp; try with_reducible rfl)
    (try simp only [List.getElem_toArray, List.getElem_cons_succ, List.getElem_cons_zero, Act.put, List.setIfInBounds_toArray, List.set_cons_zero, List.set_cons_succ])
    refine wpAnyH_take (i := 3) (oi := _) (v := ?vwf3) rfl (by kernel_rfl) (by kernel_rfl) (by kernel_rfl) (fun _ _ _ h => h) (Or.inl ⟨by rfl, ?ywf3⟩) (by assumption) ?rwf3
    case ywf3 => (intro w hSw; go_simp; try with_reducible rfl)
    (try simp only [List.getElem_toArray, List.getElem_cons_succ, List.getElem_cons_zero, Act.put, List.setIfInBounds_toArray, List.set_cons_zero, List.set_cons_succ])
    refine wpAnyH_take (i := 4) (oi := _) (v := ?vwf4) rfl (by kernel_rfl) (by kernel_rfl) (by kernel_rfl) (fun _ _ _ h => h) (Or.inl ⟨by rfl, ?ywf4⟩) (by assumption) ?rwf4
    case ywf4 => (intro w hSw; go_simp; try with_reducible rfl)
    (try simp only [List.getElem_toArray, List.getElem_cons_succ, List.getElem_cons_zero, Act.put, List.setIfInBounds_toArray, List.set_cons_zero, List.set_cons_succ])
    refine wpAnyH_take (i := 5) (oi := _) (v := ?vwf5) rfl (by kernel_rfl) (by kernel_rfl) (by kernel_rfl) (fun _ _ _ h => h) (Or.inl ⟨by rfl, ?ywf5⟩) (by assumption) ?rwf5
    case ywf5 => (intro w hSw; go_simp; try with_reducible rfl)
    (try simp only [List.getElem_toArray, List.getElem_cons_succ, List.getElem_cons_zero, Act.put, List.setIfInBounds_toArray, List.set_cons_zero, List.set_cons_succ])
    refine wpAnyH_ready (rs := [6]) (by kernel_rfl) (by simp) ?_
    refine AllReadyH.cons (o := _) rfl (fun K hK => ?_) AllReadyH.nil
    (try simp only [List.getElem_toArray, List.getElem_cons_succ, List.getElem_cons_zero])
    go_simp
    refine hK.out _ _ ?_ (fun hHeld => ?_)
    · exact t8
    clear hK K
    (try simp only [List.getElem_toArray, List.getElem_cons_succ, List.getElem_cons_zero, Act.put, List.setIfInBounds_toArray, List.set_cons_zero, List.set_cons_succ])
    refine wpAnyH_done (by kernel_rfl) ?_ _
    go_wp2
    go_ret
    exact ⟨rfl, t5.out, YA.out.trans t6.out (fun i hi h => h.elim (fun e => by have := sz.out; omega) (fun e => .inr e))⟩
end
end Go.Proofs.Ytedcpmkfanlicaa
