/- settle: each loose block, in its order, handed to a closure with what was flushed; what the closure leaves is flushed. -/
import Derived.Test.YtedcpmkfanlicaaDvSorted
import Derived.Deep.RegionHeld3
import Derived.Deep.LoopGhost
set_option linter.unusedVariables false
set_option linter.unusedSimpArgs false
namespace Go.Proofs.Ytedcpmkfanlicaa
open Go Go.RowKit Go.Sort Go.Lib Go.Maps
attribute [local go_sem ↓] run_size512 run_size513
attribute [local simp high] run_size512x run_size513x

def putG (G : Int → Option Blk) (k : Int) (b : Blk) : Int → Option Blk := fun y => if y = k then some b else G y
/-- what is flushed when the loose ones are settled, the first of which has number i -/
def settleG (res : Nat → Blk → Blk → Blk) : Nat → (Int → Option Blk) → List (Int × Nw) → (Int → Option Blk)
  | _, G, [] => G
  | i, G, a :: r => settleG res (i + 1) (putG G a.1 (res i ((G a.1).getD zeroBlk) a.2.of)) r
/-- what is asked of the closure -/
def Settles (h : FuncId) (cb : Array Value) (res : Nat → Blk → Blk → Blk) (w : World) (mf ml n : Nat) : Prop :=
  ∀ W, Chg (fun i => i = mf ∨ i = ml) w W → ∀ (i o : Nat) (old x : Blk), i < n → Full old → Full x → w.heap.size ≤ o → W.heap[o]? = some (.cells (blkCells old).toArray 65 (0, 0)) →
    Full (res i old x) ∧ Calls Try.prog h (#[.int .i64 i, .pointer (some ⟨o, 0, none⟩), .agg (blkCells x).toArray] ++ cb) W fun e W' => e = .returned (.tuple #[]) ∧ W'.heap[o]? = some (.cells (blkCells (res i old x)).toArray 65 (0, 0)) ∧ Chg (fun j => j = o) W W'
theorem upd_put (G : Int → Option Blk) (k : Int) (b : Blk) : upd (fun k => (G k).map blkV) k (some (blkV b)) = fun y => (putG G k b y).map blkV := by
  funext y
  unfold upd putG
  split <;> rfl
theorem upd_drop {lo : List (Int × Nw)} {a : Int × Nw} (h : ((a :: lo).map (·.1)).Nodup) : upd (fun k => (look (a :: lo) k).map nwV) a.1 none = fun y => (look lo y).map nwV := by
  funext y
  rw [List.map_cons, List.nodup_cons] at h
  unfold upd
  split
  · next e =>
    subst e
    have : look lo a.1 = none := by
      cases hl : look lo a.1 with
      | none => rfl
      | some x => exact absurd (List.mem_map_of_mem (f := (·.1)) (look_mem hl)) h.1
    rw [this]; rfl
  · next e =>
    have hne : ¬ a.1 = y := fun e' => e e'.symm
    show Option.map nwV (look (a :: lo) y) = Option.map nwV (look lo y)
    unfold look
    rw [List.find?_cons_of_neg (by simpa using hne)]

set_option maxHeartbeats 2000000 in
set_option maxRecDepth 100000 in
theorem settle_any {w : World} {p mf ml nf nl : Nat} {d : Dv} {G : Int → Option Blk} {lo : List (Int × Nw)} (H : DevAt w p d mf ml nf nl G lo) (hc : d.clock ≤ 1000000) (hnl : nl ≤ 1000000) (hnf : nf + lo.length ≤ 1000000)
    (h : FuncId) (cb : Array Value) (res : Nat → Blk → Blk → Blk) (he : ∀ args w, (callFunc h args).run Try.prog w = .ok (.enter h args) w) (HC : Settles h cb res w mf ml lo.length) :
    Calls Try.prog 36 #[.pointer (some ⟨p, 0, none⟩), .func (.func h) #[] cb] w fun e w' => e = .returned (.tuple #[]) ∧ DevAt w' p d mf ml (nf + lo.length) nl (settleG res 0 G lo) [] ∧ Chg (fun i => i = mf ∨ i = ml) w w' := by
  have HD := Lib.hid H
  have HC' := Lib.hid HC
  have HE := Lib.hid he
  clear HC
  have YA : Hid (Ext w (w.alloc (.cells #[.pointer (some ⟨p, 0, none⟩)] 25))) := (Ext.refl w).alloc _
  have bx : (w.alloc (.cells #[.pointer (some ⟨p, 0, none⟩)] 25)).cell? ⟨w.heap.size, 0, none⟩ = some (.pointer (some ⟨p, 0, none⟩)) := cellsAt_new w [.pointer (some ⟨p, 0, none⟩)] 25 0 _ rfl
  have HA := Lib.hid (H.ext YA.out)
  have c2 : (w.alloc (.cells #[.pointer (some ⟨p, 0, none⟩)] 25)).cell? ⟨p, 2, none⟩ = some (.map (some ml)) := (HA.out.cell (j := 2) rfl).1
  have BX := Lib.hid bx
  have C2 := Lib.hid c2
  have ko := Lib.hid (keys_of (some ml) (w.alloc (.cells #[.pointer (some ⟨p, 0, none⟩)] 25)))
  clear H
  go_enter Try.func36, Try.ntmps36
  go_wp2_with fail
  refine ko.out.mono ?_
  rintro e w1 ⟨rfl, hw1⟩
  have Y1 : Hid (Ext (w.alloc (.cells #[.pointer (some ⟨p, 0, none⟩)] 25)) w1) := by show Ext _ _; rw [hw1]; exact (Ext.refl _).alloc _
  have bm : Hid (w1.cell? ⟨w.heap.size + 1, 0, none⟩ = some (.map (some ml))) := by
    show _ = _
    rw [hw1]
    have := cellsAt_new (w.alloc (.cells #[.pointer (some ⟨p, 0, none⟩)] 25)) [.map (some ml)] 58 0 _ rfl
    simp only [World.size_alloc] at this
    exact this
  have q0 := sorted_of (Y1.out.cell BX.out) (Y1.out.cell C2.out) bm.out (HA.out.ls.ext Y1.out) HD.out.fullL (fun x hx => by have := HD.out.young x hx; omega) HD.out.keys HD.out.rise hnl
  have q := Lib.hid q0
  clear ko hw1 q0 bm
  go_wp2_with fail
  refine q.out.mono ?_
  rintro e w2 ⟨v, rfl, OW0, X2⟩
  have OW := Lib.hid OW0
  clear OW0
  have HW : Hid (DevAt w2 p d mf ml nf nl G lo) := (HA.out.ext Y1.out).chg X2 id id id
  have BW := Lib.hid (X2.cell (Y1.out.cell BX.out) id)
  have X2' : Hid (Chg (fun _ => False) w w2) := ((YA.out.trans Y1.out).chg _).trans X2 (fun _ _ h => h)
  have mfl : Hid (mf < w.heap.size) := HD.out.fl.lt
  have mll : Hid (ml < w.heap.size) := HD.out.ls.lt
  have wsz : Hid (w.heap.size < w1.heap.size) := by show _ < _; have := YA.out.size; have := Y1.out.size; simp at *; omega
  obtain ⟨a0, c0, hv⟩ : ∃ a c, v = .slice a lo.length c := by
    rcases owns_shape OW.out with ⟨e, h0⟩ | ⟨g, cap, e, _⟩
    · exact ⟨none, 0, by rw [e, h0]⟩
    · exact ⟨_, _, e⟩
  subst hv
  have KW : Hid (∀ j (hj : j < lo.length), ∃ g, a0 = some ⟨g, 0, none⟩ ∧ w.heap.size ≤ g ∧ w2.cell? ⟨g, j, none⟩ = some (.int .i64 lo[j].1)) := by
    intro j hj
    rcases owns_shape OW.out with ⟨e, h0⟩ | ⟨g, cap, e, hg, _⟩
    · omega
    · simp only [Value.slice.injEq] at e
      obtain ⟨rfl, _, rfl⟩ := e
      refine ⟨g, rfl, by have := wsz.out; omega, ?_⟩
      have := owns_cells OW.out rfl j (.int .i64 lo[j].1) (by simp [hj])
      rwa [Nat.zero_add] at this
  clear q X2 YA Y1 bx c2 BX C2 HA he
  clear OW
  generalize hn : lo.length = n at HC' hnf ⊢
  have HN := Lib.hid hn
  clear hn
  go_wp2
  go_loopg [17] n (fun kx s17 wr => ∃ (j : Nat) (Gj : Int → Option Blk), s17 = .int .i64 j ∧ j ≤ n ∧ n - j ≤ kx ∧ Aside (DevAt wr p d mf ml (nf + j) nl Gj (lo.drop j)) ∧ Aside (settleG res j Gj (lo.drop j) = settleG res 0 G lo) ∧ Aside (Chg (fun i => i = mf ∨ i = ml) w wr) ∧ Aside (Chg (fun i => i = mf ∨ i = ml) w2 wr))
  case atStart => exact ⟨0, G, rfl, Nat.zero_le _, by omega, HW.out, rfl, X2'.out.mono (fun _ _ h => h.elim), Chg.refl _ _⟩
  case round =>
    obtain ⟨j, Gj, rfl, hj, hg, D, E, Y, Y2⟩ := hrel
    by_cases hlt : j < n
    · have hj' : j < lo.length := by have := HN.out; omega
      have z1 : (j : Int) < (n : Int) := by omega
      have z2 : (0 : Int) ≤ (j : Int) := by omega
      obtain ⟨g2, rfl, hg2, ck0⟩ := KW.out j hj'
      have dr := List.drop_eq_getElem_cons hj'
      generalize ha : lo[j] = a at dr ck0
      generalize hr : lo.drop (j + 1) = rest at dr
      rw [dr] at D E
      have D := Lib.hid D.out
      have E := Lib.hid E.out
      have HR := Lib.hid hr
      clear dr ha hr
      have ck : wr.cell? ⟨g2, j, none⟩ = some (.int .i64 a.1) := Y2.out.cell ck0 (by have := mfl.out; have := mll.out; rintro (h | h) <;> simp at h <;> omega)
      have cb0 : wr.cell? ⟨w.heap.size, 0, none⟩ = some (.pointer (some ⟨p, 0, none⟩)) := Y2.out.cell BW.out (by have := mfl.out; have := mll.out; rintro (h | h) <;> simp at h <;> omega)
      have c1 : wr.cell? ⟨p, 1, none⟩ = some (.map (some mf)) := (D.out.cell (j := 1) rfl).1
      have lk0 : look (a :: rest) a.1 = some a.2 := look_of_mem D.out.keys (by simp)
      have wk : wfK a.1 := D.out.ls.wf (by rw [lk0]; rfl)
      have fx : Full a.2.of := D.out.fullL a (by simp)
      obtain ⟨old, hold⟩ : ∃ b, b = (Gj a.1).getD zeroBlk := ⟨_, rfl⟩
      have fo : Full old := by
        rw [hold]
        cases hg : Gj a.1 with
        | none => exact full_zero
        | some u => exact D.out.fullF _ u hg
      have l1 : (Instr.lookup 57 (.map (some mf)) (.int .i64 a.1) false).run Try.prog wr = .ok (.agg (blkCells old).toArray) wr := by
        rw [D.out.fl.look wk Try.underlying57 (zero65 wr), hold]
        cases Gj a.1 <;> rfl
      obtain ⟨wa, hwa⟩ : ∃ wa, wa = wr.alloc (.cells (blkCells old).toArray 65) := ⟨_, rfl⟩
      have k1 : ¬ K512 = 0 := by decide
      have k3 : (512 = K512) = True := by decide
      have zz := size65
      have sb1 : (blkCells old).length = 512 := by rw [blkCells_length]; exact fo.1
      have sb2 : ¬ (blkCells old).length ≠ K512 := by rw [sb1]; decide
      have s1 : ∀ cs, cs.size = 512 → Sem.run Try.prog (storeCells ⟨wr.heap.size, 0, none⟩ (blkCells old) 0) (wr.alloc (.cells cs 65)) = .ok () wa := fun cs hc => by rw [hwa]; exact store_last Try.prog (blkCells old) (blkCells_one old) wr cs 65 (by rw [hc, sb1])
      have Xa : Hid (Ext wr wa) := by show Ext _ _; rw [hwa]; exact (Ext.refl wr).alloc _
      have Ba : Hid (wa.heap[wr.heap.size]? = some (.cells (blkCells old).toArray 65 (0, 0))) := by show _ = _; rw [hwa]; exact heap_alloc_new wr _
      have Da := Lib.hid (D.out.ext Xa.out)
      have ca0 : wa.cell? ⟨w.heap.size, 0, none⟩ = some (.pointer (some ⟨p, 0, none⟩)) := Xa.out.cell cb0
      have ca2 : wa.cell? ⟨p, 2, none⟩ = some (.map (some ml)) := (Da.out.cell (j := 2) rfl).1
      have l2 : (Instr.lookup 58 (.map (some ml)) (.int .i64 a.1) false).run Try.prog wa = .ok (.agg (nwCells a.2).toArray) wa := by
        rw [Da.out.ls.look wk Try.underlying58 (zero67 wa), lk0]; rfl
      have l3 := run_field_of a.2 fx.1
      have Ya : Hid (Chg (fun i => i = mf ∨ i = ml) w wa) := Y.out.trans (Xa.out.chg fun _ => False) (fun _ _ h => h.elim)
      obtain ⟨fr, hcall⟩ := HC'.out wa Ya.out j wr.heap.size old a.2.of hlt fo fx (Y.out.size) Ba.out
      have hcall := Lib.hid hcall
      have he := HE.out
      have HOLD := Lib.hid hold
      have WK := Lib.hid wk
      have LK := Lib.hid lk0
      have CK0 := Lib.hid ck0
      clear hwa hold wk lk0 ck0
      go_wp2_with fail
      refine hcall.out.mono ?_
      rintro e wb ⟨rfl, Bb0, Xb⟩
      have Bb := Lib.hid Bb0
      have osz : Hid (w.heap.size < wr.heap.size) := by show _ < _; have := Y2.out.size; have := X2'.out.size; have := wsz.out; have := block_lt_of_cell BW.out; simp at this; omega
      have Db := Lib.hid (Da.out.chg Xb (fun e => by have := D.out.lt; omega) (fun e => by have := D.out.fl.lt; omega) (fun e => by have := D.out.ls.lt; omega))
      have Yb : Hid (Chg (fun i => i = mf ∨ i = ml) w wb) := Ya.out.trans Xb (fun i hi h => by have := osz.out; omega)
      have Yw : Hid (Chg (fun i => i = mf ∨ i = ml) w2 wb) := by
        have h1 : Chg (fun i => i = mf ∨ i = ml) w2 wa := Y2.out.trans (Xa.out.chg fun _ => False) (fun _ _ h => h.elim)
        exact h1.trans Xb (fun i hi h => by have := Y2.out.size; omega)
      have cb1 := Lib.hid (Xb.cell ca0 (fun e => by have := osz.out; simp at e; omega))
      clear hcall Bb0 s1 l1 l2 l3 ck cb0 c1 ca0 ca2 Ba sb1 sb2 he zz Xb
      generalize hnew : res j old a.2.of = new at fr Bb
      have HNEW := Lib.hid hnew
      clear hnew
      have sn1 : (blkCells new).length = 512 := by rw [blkCells_length]; exact fr.1
      have mo : ¬ mf = wr.heap.size := fun e => by have := mfl.out; have := osz.out; omega
      have r0 : ∀ W, Chg (fun i => i = mf) wb W → W.cell? ⟨w.heap.size, 0, none⟩ = some (.pointer (some ⟨p, 0, none⟩)) := fun W X => X.cell cb1.out (fun e => by have := mfl.out; simp at e; omega)
      have r1 : ∀ W, Chg (fun i => i = mf) wb W → W.cell? ⟨p, 1, none⟩ = some (.map (some mf)) := fun W X => X.cell (Db.out.cell (j := 1) rfl).1 (fun e => Db.out.pf e)
      have r2 : ∀ W, Chg (fun i => i = mf) wb W → Sem.run Try.prog (loadCellsFrom ⟨wr.heap.size, 0, none⟩ 0 K512 #[]) W = .ok (blkCells new).toArray W := fun W X => (X.cells (cellsAt_blk Bb.out) (fun e => mo e.symm)).load _ K512 sn1
      have KD : Hid (Chg (fun i => i = mf) wb wb.drew) := (Ext.refl wb).drew.chg _
      have hb2 : Hid (nf + j < maxLen) := by show _ < _; unfold maxLen; omega
      obtain ⟨wc, hrun, M1, Xc⟩ := (Db.out.fl.ext (Ext.refl wb).drew).store WK.out Try.underlying57 hb2.out (blkV new)
      rw [upd_put] at M1
      have M1 := Lib.hid M1
      have SC : Hid (Chg (fun i => i = mf) wb wc) := KD.out.trans Xc (fun _ _ h => h)
      have hrun : (Instr.mapUpdate 57 (.map (some mf)) (.int .i64 a.1) (.agg (blkCells new).toArray)).run Try.prog wb.drew = .ok () wc := hrun
      clear Xc
      go_upto_region 7 with fail
      refine wp_region_held_drew (S := fun W => Chg (fun i => i = mf) wb W) (by kernel_rfl) KD.out (fun hHeld => ?_)
      refine wpAnyH_take (i := 0) (oi := _) (v := ?vs0) rfl (by kernel_rfl) (by kernel_rfl) (by kernel_rfl) (fun _ _ _ h => h) (Or.inl ⟨by rfl, ?ys0⟩) (by assumption) ?rs0
      case ys0 => (intro w hSw; go_simp; try with_reducible rfl)
      (try simp only [List.getElem_toArray, List.getElem_cons_succ, List.getElem_cons_zero, Act.put, List.setIfInBounds_toArray, List.set_cons_zero, List.set_cons_succ])
      refine wpAnyH_take (i := 1) (oi := _) (v := ?vs1) rfl (by kernel_rfl) (by kernel_rfl) (by kernel_rfl) (fun _ _ _ h => h) (Or.inl ⟨by rfl, ?ys1⟩) (by assumption) ?rs1
      case ys1 => (intro w hSw; go_simp; try with_reducible rfl)
      (try simp only [List.getElem_toArray, List.getElem_cons_succ, List.getElem_cons_zero, Act.put, List.setIfInBounds_toArray, List.set_cons_zero, List.set_cons_succ])
      refine wpAnyH_take (i := 2) (oi := _) (v := ?vs2) rfl (by kernel_rfl) (by kernel_rfl) (by kernel_rfl) (fun _ _ _ h => h) (Or.inl ⟨by rfl, ?ys2⟩) (by assumption) ?rs2
      case ys2 => (intro w hSw; go_simp; try with_reducible rfl)
      (try simp only [List.getElem_toArray, List.getElem_cons_succ, List.getElem_cons_zero, Act.put, List.setIfInBounds_toArray, List.set_cons_zero, List.set_cons_succ])
      refine wpAnyH_take (i := 3) (oi := _) (v := ?vs3) rfl (by kernel_rfl) (by kernel_rfl) (by kernel_rfl) (fun _ _ _ h => h) (Or.inl ⟨by rfl, ?ys3⟩) (by assumption) ?rs3
      case ys3 => (intro w hSw; go_simp; try with_reducible rfl)
      (try simp only [List.getElem_toArray, List.getElem_cons_succ, List.getElem_cons_zero, Act.put, List.setIfInBounds_toArray, List.set_cons_zero, List.set_cons_succ])
      refine wpAnyH_take (i := 4) (oi := _) (v := ?vs4) rfl (by kernel_rfl) (by kernel_rfl) (by kernel_rfl) (fun _ _ _ h => h) (Or.inl ⟨by rfl, ?ys4⟩) (by assumption) ?rs4
      case ys4 => (intro w hSw; go_simp; try with_reducible rfl)
      (try simp only [List.getElem_toArray, List.getElem_cons_succ, List.getElem_cons_zero, Act.put, List.setIfInBounds_toArray, List.set_cons_zero, List.set_cons_succ])
      refine wpAnyH_take (i := 5) (oi := _) (v := ?vs5) rfl (by kernel_rfl) (by kernel_rfl) (by kernel_rfl) (fun _ _ _ h => h) (Or.inl ⟨by rfl, ?ys5⟩) (by assumption) ?rs5
      case ys5 => (intro w hSw; go_simp; try with_reducible rfl)
      (try simp only [List.getElem_toArray, List.getElem_cons_succ, List.getElem_cons_zero, Act.put, List.setIfInBounds_toArray, List.set_cons_zero, List.set_cons_succ])
      refine wpAnyH_ready (rs := [6]) (by kernel_rfl) (by simp) ?_
      refine AllReadyH.cons (o := _) rfl (fun K hK => ?_) AllReadyH.nil
      (try simp only [List.getElem_toArray, List.getElem_cons_succ, List.getElem_cons_zero])
      go_simp
      refine hK.out _ _ ?_ (fun hHeld => ?_)
      · exact SC.out
      clear hK K
      (try simp only [List.getElem_toArray, List.getElem_cons_succ, List.getElem_cons_zero, Act.put, List.setIfInBounds_toArray, List.set_cons_zero, List.set_cons_succ])
      refine wpAnyH_done (by kernel_rfl) ?_ _
      have c3 : wc.cell? ⟨w.heap.size, 0, none⟩ = some (.pointer (some ⟨p, 0, none⟩)) := r0 wc SC.out
      have c4 : wc.cell? ⟨p, 2, none⟩ = some (.map (some ml)) := SC.out.cell (Db.out.cell (j := 2) rfl).1 (fun e => Db.out.pf e)
      have ML := Db.out.ls.chg SC.out (fun e => Db.out.apart e.symm)
      obtain ⟨wd, hdel, M2, Xd⟩ := ML.drop WK.out Try.underlying58 0
      rw [upd_drop Db.out.keys] at M2
      have M2 := Lib.hid M2
      have Xd := Lib.hid Xd
      clear r0 r1 r2 hrun KD ML
      have M3 := Lib.hid (M1.out.chg Xd.out (fun e => Db.out.apart e))
      have Xe : Hid (Chg (fun i => i = mf ∨ i = ml) wb wd) := (SC.out.mono (fun _ _ h => .inl h)).trans (Xd.out.mono (fun _ _ h => .inr h)) (fun _ _ h => h)
      have De : Hid (DevAt wd p d mf ml (nf + (j + 1)) nl (putG Gj a.1 new) rest) := by
        refine ⟨?_, M3.out, M2.out, Db.out.apart, fun k b hb => ?_, fun x hx => Db.out.fullL x (by simp [hx]), ?_, ?_, fun x hx => Db.out.young x (by simp [hx])⟩
        · rw [Xe.out.block p Db.out.lt (fun h => h.elim (fun e => Db.out.pf e) (fun e => Db.out.pl e))]; exact Db.out.blk
        · unfold putG at hb
          split at hb
          · cases hb; exact fr
          · exact Db.out.fullF k b hb
        · have := Db.out.keys; rw [List.map_cons, List.nodup_cons] at this; exact this.2
        · have := Db.out.rise; rw [List.pairwise_cons] at this; exact this.2
      have Ee : Hid (settleG res (j + 1) (putG Gj a.1 new) rest = settleG res 0 G lo) := by
        show _ = _
        rw [← E.out, settleG, ← HOLD.out, HNEW.out]
      have Ye : Hid (Chg (fun i => i = mf ∨ i = ml) w wd) := Yb.out.trans Xe.out (fun _ _ h => h)
      have Yf : Hid (Chg (fun i => i = mf ∨ i = ml) w2 wd) := Yw.out.trans Xe.out (fun _ _ h => h)
      clear M1 M2 M3 Xd SC Xe Db
      go_wp2
      go_roundg (n - (j + 1))
      case measure => omega
      case rel => exact ⟨j + 1, _, by go_num, by omega, Nat.le_refl _, by rw [HR.out]; exact De.out, by rw [HR.out]; exact Ee.out, Ye.out, Yf.out⟩
    · obtain rfl : j = n := by omega
      have e0 : lo.drop j = [] := List.drop_of_length_le (by have := HN.out; omega)
      rw [e0] at D E
      have D := Lib.hid D.out
      have E := Lib.hid E.out
      clear e0
      go_wp2
      go_end0
      refine ⟨rfl, ?_, Y.out⟩
      have e1 : Gj = settleG res 0 G lo := E.out
      rw [← e1, HN.out]
      exact D.out
end Go.Proofs.Ytedcpmkfanlicaa
