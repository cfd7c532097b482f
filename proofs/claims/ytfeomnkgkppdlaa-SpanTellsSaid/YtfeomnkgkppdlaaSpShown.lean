/- The first look that each statement of this seat takes. -/
import Derived.Test.YtfeomnkgkppdlaaSpNoneW
import Derived.Deep.RegionHeld3
import Derived.Deep.CutBlock
import Derived.Deep.DeepCutAuto
set_option linter.unusedVariables false
set_option linter.unusedSimpArgs false
namespace Go.Proofs.Ytfeomnkgkppdlaa
open Go Go.RowKit Go.Sort Go.Lib
attribute [local go_sem ↓] run_size24 run_size49 run_size25
attribute [local simp high] run_size24x run_size49x run_size25x
attribute [local go_sem ↓] to_span1 to_span2 to_span3 to_key1 to_spans1 to_keys1 to_bd0 to_bd1
attribute [local simp] is_bFrEn is_bTo is_bEn is_bFrTo is_bSpans1 is_bKeys1 run_bFrEn run_bTo run_bEn run_bFrTo run_bSpans1 run_bKeys1 is_bBdKey is_bBdEn is_bSp3 run_bBdKey run_bBdEn run_bBd0 run_bSp3

theorem build_spans2 (s1 s2 : Sp) (w : World) : (Instr.buildSlice 22 2 #[(0, spanV s1), (1, spanV s2)]).run Try.prog w = .ok (.slice (some ⟨w.heap.size, 0, none⟩) 2 2) (w.alloc (.cells (spanCells s1 ++ spanCells s2).toArray 28)) := by
  have h1 := fill_part (fun i => some (i * 49, 49)) [] (spanCells zeroSp) (spanCells zeroSp) (spanCells s1) 0 [(1, spanV s2)] (by rw [spanCells_length]; rfl) (by rw [spanCells_length, spanCells_length])
  have h2 := fill_part (fun i => some (i * 49, 49)) (spanCells s1) (spanCells zeroSp) [] (spanCells s2) 1 [] (by rw [spanCells_length, spanCells_length]) (by rw [spanCells_length, spanCells_length])
  simp only [List.nil_append, List.append_nil] at h1 h2
  have hz : ((Array.range (2 * 49)).map ((spanCells zeroSp).toArray[· % (spanCells zeroSp).toArray.size]!)) = (spanCells zeroSp ++ spanCells zeroSp).toArray := by kernel_rfl
  unfold Instr.buildSlice
  simp only [Sem.run_bind, run_underlying Try.underlying22, Try.sizeOf28, Result.andThen]
  rw [if_neg (by decide)]
  rw [if_neg (by decide)]
  simp only [Sem.run_bind, Sem.run_pure, Result.andThen, zero_span, Value.cells]
  rw [hz]
  rw [show Instr.fill (fun i => some (i * 49, 49)) (spanCells zeroSp ++ spanCells zeroSp).toArray [(0, spanV s1), (1, spanV s2)] = some (spanCells s1 ++ spanCells s2).toArray from h1.trans h2]
  rfl
def bls2 (t : Nat) (p q : Nat × Value) : Sem Value := Instr.buildSlice t 2 #[p, q]
def bSpans2 (s1 s2 : Sp) : Sem Value := Instr.buildSlice 22 2 #[(0, spanV s1), (1, spanV s2)]
theorem to_spans2 (f : Nat × Operand → Nat × Value) (p q : Nat × Operand) : Instr.buildSlice 22 2 (Array.map f #[p, q]) = bls2 22 (f p) (f q) := by simp [bls2]
theorem is_bSpans2 (s1 s2 : Sp) : bls2 22 (0, .agg (spanCells s1).toArray) (1, .agg (spanCells s2).toArray) = bSpans2 s1 s2 := rfl
theorem run_bSpans2 (s1 s2 : Sp) (w : World) : Sem.run Try.prog (bSpans2 s1 s2) w = .ok (.slice (some ⟨w.heap.size, 0, none⟩) 2 2) (w.alloc (.cells (spanCells s1 ++ spanCells s2).toArray 28)) := build_spans2 s1 s2 w
attribute [local go_sem ↓] to_spans2
attribute [local simp] is_bSpans2 run_bSpans2
theorem spansIn_two {w : World} {b : Nat} {s1 s2 : Sp} (h : CellsAt w b 0 (spanCells s1 ++ spanCells s2)) : SpansIn w (.slice (some ⟨b, 0, none⟩) 2 2) [s1, s2] := by
  refine ⟨some ⟨b, 0, none⟩, 2, rfl, Nat.le_refl _, fun _ => ⟨b, 0, rfl, rowAt_of_flat (enc := spanCells) (k := 49) spanCells_length ?_⟩, fun h => by cases h⟩
  simpa [flat] using h
theorem num_of (a b : UInt8) : sN (ofS a b) = (nK (oneKey a), nK (oneKey b)) := rfl
theorem norm_of (a b : UInt8) : Norm (ofS a b) := fun h => by cases h
theorem letters : nK (oneKey 97) < nK (oneKey 98) ∧ nK (oneKey 98) < nK (oneKey 99) ∧ nK (oneKey 99) < nK (oneKey 100) := by decide +kernel
theorem shown_c {c : List Sp} (h : CleanOf [ofS 98 100, ofS 97 99] c) : c = [ofS 97 100] := by
  obtain ⟨h1, h2, h3⟩ := letters
  refine (tells_clean h).unique (N := fun n => mem n (NL [ofS 97 100])) ⟨⟨Nat.zero_le _, by show nK (oneKey 97) < nK (oneKey 100); omega, trivial⟩, fun s hs => ?_, fun n => Iff.rfl⟩ fun n => ?_
  · rw [List.mem_singleton] at hs; subst hs; exact norm_of _ _
  · simp only [NL, List.map_cons, List.map_nil, num_of, mem_cons, mem_nil, or_false]
    omega
theorem shown_l {l : List Sp} (h : LessOf [ofS 97 100] [ofS 98 99] l) : l = [ofS 97 98, ofS 99 100] := by
  obtain ⟨h1, h2, h3⟩ := letters
  refine (tells_less h).unique (N := fun n => mem n (NL [ofS 97 98, ofS 99 100])) ⟨⟨Nat.zero_le _, by show nK (oneKey 97) < nK (oneKey 98); omega, by show nK (oneKey 98) + 1 ≤ nK (oneKey 99); omega, by show nK (oneKey 99) < nK (oneKey 100); omega, trivial⟩, fun s hs => ?_, fun n => Iff.rfl⟩ fun n => ?_
  · simp only [List.mem_cons, List.not_mem_nil, or_false] at hs
    rcases hs with rfl | rfl
    · exact norm_of _ _
    · exact norm_of _ _
  · simp only [NL, List.map_cons, List.map_nil, num_of, mem_cons, mem_nil, or_false]
    omega
theorem shown_t1 {o : List Sp} (h : BothOf [ofS 97 100] [ofS 97 98, ofS 99 100] o) : 0 < o.length := by
  obtain ⟨h1, h2, h3⟩ := letters
  have t := tells_both h
  cases o with
  | cons _ _ => simp
  | nil =>
    refine (mem_nil (nK (oneKey 97)) ((t.2.2 _).2 ?_)).elim
    simp only [NL, List.map_cons, List.map_nil, num_of, mem_cons, mem_nil, or_false]
    omega
theorem shown_t2 {o : List Sp} (h : BothOf [ofS 97 98, ofS 99 100] [ofS 98 99] o) : o = [] := by
  refine (tells_both h).empty fun n => ?_
  simp only [NL, List.map_cons, List.map_nil, num_of, mem_cons, mem_nil, or_false]
  omega

def Later (a b : World) : Prop := Chg (fun _ => False) a b
theorem Later.step {a b c : World} (h : Later a b) (k : Chg (fun _ => False) b c) : Later a c := Chg.trans h k (fun _ _ h => h)

set_option maxHeartbeats 4000000 in
set_option maxRecDepth 100000 in
theorem shown_any (w : World) : Calls Try.prog 10 #[] w fun e w' => e = .returned (.bool true) ∧ Chg (fun _ => False) w w' := by
  have mixed := Try.mixed
  have k1 : ¬ K24 = 0 := by decide
  have k2 : ¬ K49 = 0 := by decide
  have hgd : Try.prog.eqGuardType Try.prog.depth 28 = false := by kernel_rfl
  have eqs := fun a b w => run_eq_span a b w
  have OF : Hid (∀ (a b : UInt8) (w : World), Calls Try.prog 26 #[.int .u8 (a.toNat : Int), .int .u8 (b.toNat : Int)] w fun e w' => e = .returned (.agg (spanCells (ofS a b)).toArray) ∧ Ext w w') := fun a b w => of_any a b w
  go_enter Try.func10, Try.ntmps10
  go_wp2_with fail
  refine (OF.out 98 100 w).mono ?_
  rintro e w1 ⟨rfl, X1⟩
  have Y1 := Lib.hid X1
  clear X1
  go_wp2_with fail
  refine (OF.out 97 99 w1).mono ?_
  rintro e w2 ⟨rfl, X2⟩
  have Y2 : Hid (Chg (fun _ => False) w w2) := (Y1.out.trans X2).chg _
  clear Y1 X2
  have q1 := Lib.hid (clean_spans _ _ (w2.alloc (.cells (spanCells (ofS 98 100) ++ spanCells (ofS 97 99)).toArray 28)) (spansIn_two (cellsAt_new w2 _ 28)) (by simp))
  go_wp2_with fail
  refine q1.out.mono ?_
  rintro e w3 ⟨vc, c, rfl, CC, SC0, X3⟩
  have EC := shown_c CC
  subst EC
  have SC1 := Lib.hid SC0
  have Y3 : Hid (Chg (fun _ => False) w w3) := (Y2.out.trans (chg_alloc _ _ fun _ => False) (fun _ _ h => h)).trans X3 (fun _ _ h => h)
  clear q1 Y2 CC SC0 X3
  go_wp2_with fail
  refine (OF.out 97 100 w3).mono ?_
  rintro e w4 ⟨rfl, X4⟩
  have A5 := Lib.hid (spansIn_one (cellsAt_new w4 (spanCells (ofS 97 100)) 28))
  have Y5 : Hid (Ext w3 (w4.alloc (.cells (spanCells (ofS 97 100)).toArray 28))) := X4.alloc _
  clear X4
  go_wp2_with fail
  refine (OF.out 98 99 _).mono ?_
  rintro e w6 ⟨rfl, X6⟩
  have A6 := Lib.hid (A5.out.ext (X6.alloc (.cells (spanCells (ofS 98 99)).toArray 28)))
  have B6 := Lib.hid (spansIn_one (cellsAt_new w6 (spanCells (ofS 98 99)) 28))
  have Y6 : Hid (Ext w3 (w6.alloc (.cells (spanCells (ofS 98 99)).toArray 28))) := (Y5.out.trans X6).alloc _
  have q2 := Lib.hid (less_of _ _ _ _ (w6.alloc (.cells (spanCells (ofS 98 99)).toArray 28)) A6.out B6.out (by simp) (by simp))
  clear X6 A5 Y5
  go_wp2_with fail
  refine q2.out.mono ?_
  rintro e w7 ⟨vl, l, rfl, LL, SL0, X7⟩
  have EL := shown_l LL
  subst EL
  have SL := Lib.hid SL0
  have Y7' : Hid (Chg (fun _ => False) w3 w7) := (Y6.out.chg _).trans X7 (fun _ _ h => h)
  have SC := Lib.hid (SC1.out.chg Y7'.out (fun _ _ h => h))
  have Y7 : Hid (Chg (fun _ => False) w w7) := Y3.out.trans Y7'.out (fun _ _ h => h)
  clear q2 A6 B6 Y6 Y7' LL SL0 X7 SC1 Y3
  obtain ⟨gc, oc, cc, rfl, LC⟩ := SC.out.loads (by simp)
  obtain ⟨gl, ol, cl, rfl, LL⟩ := SL.out.loads (by simp)
  have l1 : ∀ w', Later w7 w' → Sem.run Try.prog (loadCellsFrom ⟨gc, oc, none⟩ 0 K49 #[]) w' = .ok (spanCells (ofS 97 100)).toArray w' := fun w' X => by
    have := ((Chg.cells X (LC 0 (by simp)) id).load Try.prog K49 (spanCells_length _))
    simpa using this
  have l2 : ∀ w', Later w7 w' → Sem.run Try.prog (loadCellsFrom ⟨gl, ol, none⟩ 0 K49 #[]) w' = .ok (spanCells (ofS 97 98)).toArray w' := fun w' X => by
    have := ((Chg.cells X (LL 0 (by simp)) id).load Try.prog K49 (spanCells_length _))
    simpa using this
  have l3 : ∀ w', Later w7 w' → Sem.run Try.prog (loadCellsFrom ⟨gl, ol + K49, none⟩ 0 K49 #[]) w' = .ok (spanCells (ofS 99 100)).toArray w' := fun w' X => by
    have := ((Chg.cells X (LL 1 (by simp)) id).load Try.prog K49 (spanCells_length _))
    rw [List.getElem_cons_succ, List.getElem_cons_zero, Nat.one_mul] at this
    exact this
  clear LC LL
  have L0 : Hid (Later w7 w7) := Chg.refl _ _
  have F : Hid (∀ (a b : UInt8) (W : World), Later w7 W → Calls Try.prog 26 #[.int .u8 (a.toNat : Int), .int .u8 (b.toNat : Int)] W fun e w' => e = .returned (.agg (spanCells (ofS a b)).toArray) ∧ Later w7 w') :=
    fun a b W h => (OF.out a b W).mono fun e w' ⟨he, hx⟩ => ⟨he, h.step (hx.chg _)⟩
  have T1 : Hid (∀ W, Later w7 W → Calls Try.prog 17 #[.slice (some ⟨gc, oc, none⟩) 1 cc, .slice (some ⟨gl, ol, none⟩) 2 cl] W fun e w' => e = .returned (.bool true) ∧ Later w7 w') := fun W h => by
    have h' : Later w7 W := h
    refine (touch_of _ _ _ _ W (SC.out.chg h' (fun _ _ h => h)) (SL.out.chg h' (fun _ _ h => h)) (by simp) (by simp)).mono ?_
    rintro e w' ⟨out, rfl, B, X⟩
    exact ⟨by rw [decide_eq_true (shown_t1 B)], h'.step X⟩
  have T2 : Hid (∀ W, Later w7 W → Calls Try.prog 17 #[.slice (some ⟨gl, ol, none⟩) 2 cl, .slice (some ⟨W.heap.size, 0, none⟩) 1 1] (W.alloc (.cells (spanCells (ofS 98 99)).toArray 28)) fun e w' => e = .returned (.bool false) ∧ Later w7 w') := fun W h => by
    have h' : Later w7 (W.alloc (.cells (spanCells (ofS 98 99)).toArray 28)) := h.step (((Ext.refl W).alloc _).chg _)
    refine (touch_of _ _ _ _ _ (SL.out.chg h' (fun _ _ h => h)) (spansIn_one (cellsAt_new W (spanCells (ofS 98 99)) 28)) (by simp) (by simp)).mono ?_
    rintro e w' ⟨out, rfl, B, X⟩
    exact ⟨by rw [shown_t2 B]; rfl, h'.step X⟩
  have F1 : Hid (∀ W, Later w7 W → Calls Try.prog 26 #[.int .u8 97, .int .u8 100] W fun e w' => e = .returned (.agg (spanCells (ofS 97 100)).toArray) ∧ Later w7 w') := F.out 97 100
  have F2 : Hid (∀ W, Later w7 W → Calls Try.prog 26 #[.int .u8 97, .int .u8 98] W fun e w' => e = .returned (.agg (spanCells (ofS 97 98)).toArray) ∧ Later w7 w') := F.out 97 98
  have F3 : Hid (∀ W, Later w7 W → Calls Try.prog 26 #[.int .u8 99, .int .u8 100] W fun e w' => e = .returned (.agg (spanCells (ofS 99 100)).toArray) ∧ Later w7 w') := F.out 99 100
  have F4 : Hid (∀ W, Later w7 W → Calls Try.prog 26 #[.int .u8 98, .int .u8 99] W fun e w' => e = .returned (.agg (spanCells (ofS 98 99)).toArray) ∧ Later w7 w') := F.out 98 99
  have KD : Hid (Later w7 w7.drew) := L0.out.step ((Ext.refl w7).drew.chg _)
  have KA : Hid (∀ W o, Later w7 W → Later w7 (W.alloc o)) := fun W o h => h.step (((Ext.refl W).alloc o).chg _)
  clear SC SL OF F
  generalize ofS 97 100 = sad at *
  generalize ofS 97 98 = sab at *
  generalize ofS 99 100 = scd at *
  generalize ofS 98 99 = sbc at *
  go_upto_region 3 with fail
  go_region_held3 (fun w' => Later w7 w') (first | assumption | exact KD.out | exact KA.out _ _ (by assumption))
    (first
      | (go_at_call 26; refine (F1.out _ (by assumption)).mono ?_; clear F1; rintro e w' ⟨rfl, X⟩)
      | (go_at_call 26; refine (F2.out _ (by assumption)).mono ?_; clear F2; rintro e w' ⟨rfl, X⟩)
      | (go_at_call 26; refine (F3.out _ (by assumption)).mono ?_; clear F3; rintro e w' ⟨rfl, X⟩)
      | (go_at_call 17; refine (T1.out _ (by assumption)).mono ?_; clear T1; rintro e w' ⟨rfl, X⟩)
      | (go_at_call 26; refine (F4.out _ (by assumption)).mono ?_; clear F4; rintro e w' ⟨rfl, X⟩)
      | (go_at_call 17; refine (T2.out _ (by assumption)).mono ?_; clear T2; rintro e w' ⟨rfl, X⟩))
  go_wp2
  go_ret
  exact ⟨rfl, Y7.out.trans X (fun _ _ h => h)⟩
end Go.Proofs.Ytfeomnkgkppdlaa
