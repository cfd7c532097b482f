/- The first look that each statement of this seat takes: it answers true. -/
import Derived.Test.YtgkjckfkbpijpaaLogPrune
import Derived.Test.YtgkjckfkbpijpaaBuild
set_option linter.unusedVariables false
set_option linter.unusedSimpArgs false
namespace Go.Proofs.Ytgkjckfkbpijpaa
open Go Go.RowKit Go.Sort Go.Lib
attribute [local go_sem ↓] run_size24 run_size49
attribute [local simp high] run_size24x run_size49x
attribute [local go_sem ↓] to_span1 to_span2 to_key1 to_spans1 to_keys1
attribute [local simp] is_bFrEn is_bTo is_bEn is_bFrTo is_bSpans1 is_bKeys1 run_bFrEn run_bTo run_bEn run_bFrTo run_bSpans1 run_bKeys1

def kOne : Key := zeroKey.set 0 1
def bKey : Sem Value := Instr.build 24 #[(0, .int .u8 1)]
theorem is_bKey : bld1 24 (0, .int .u8 1) = bKey := rfl
theorem run_bKey (w : World) : Sem.run Try.prog bKey w = .ok (.agg (keyCells kOne).toArray) w := by kernel_rfl
attribute [local simp] is_bKey

theorem store_key (P : Program) (k : Key) (W : World) (cs : Array Value) (h : cs.size = 24) :
    Sem.run P (storeCells ⟨W.heap.size, 0, none⟩ (keyCells k) 0) (W.alloc (.cells cs 24)) = .ok () (W.alloc (.cells (keyCells k).toArray 24)) :=
  store_whole P (keyCells k) (keyCells_one k) W cs 24 (by rw [h, keyCells_length])

theorem spansIn_one {w : World} {b : Nat} {s : Sp} (h : CellsAt w b 0 (spanCells s)) : SpansIn w (.slice (some ⟨b, 0, none⟩) 1 1) [s] :=
  ⟨some ⟨b, 0, none⟩, 1, rfl, fun _ => ⟨b, 0, rfl, fun i hi => by
    have : i = 0 := by simp at hi; exact hi
    subst this
    simpa using h⟩⟩
theorem keysIn_one {w : World} {b : Nat} {k : Key} (h : CellsAt w b 0 (keyCells k)) : KeysIn w (.slice (some ⟨b, 0, none⟩) 1 1) [k] :=
  ⟨some ⟨b, 0, none⟩, 1, rfl, fun _ => ⟨b, 0, rfl, fun i hi => by
    have : i = 0 := by simp at hi; exact hi
    subst this
    simpa using h⟩⟩
theorem grows_one (c : Cm) : Grows [c] := fun i j hij hj => by simp at hj; omega
theorem conf_one (n since : Int) (sl : Value) (k : Key) (s : Sp) : conf [⟨n, sl, [k]⟩] since [s] = (decide (since < n) && inSp k s) := by simp [conf, hit]
/-- Conflicts at a log of one commit of one key, and one span -/
theorem conf_at {w : World} {B p : Nat} {v sl : Value} {n last floor since : Int} {k : Key} {s : Sp} {b : Nat} {r : Bool} (h : LogAt w B p v [⟨n, sl, [k]⟩] last floor) (hs : ¬ last < since) (hf : ¬ since < floor) (hb : CellsAt w b 0 (spanCells s)) (hr : (decide (since < n) && inSp k s) = r) :
    Calls Try.prog 11 #[.pointer (some ⟨p, 0, none⟩), .int .i64 since, .slice (some ⟨b, 0, none⟩) 1 1] w fun e w' => e = .returned (.tuple #[.bool r, .int .i64 0]) ∧ Ext w w' := by
  have := conf_ok w B p v [⟨n, sl, [k]⟩] last floor since _ [s] h hs hf (grows_one _) (spansIn_one hb) (by simp) (by simp)
  rw [conf_one, hr] at this
  exact this
theorem upTo_all {c : Cm} {o : Int} {m : Nat} (h : UpTo [c] o m) (hc : c.num ≤ o) : m = 1 := by
  have h1 := h.1
  simp at h1
  by_cases e : m = 0
  · subst e
    have := h.2.2 0 (Nat.le_refl _) (by simp)
    simp at this
    omega
  · omega

set_option maxHeartbeats 2000000 in
set_option maxRecDepth 100000 in
theorem shown_any (w : World) : Calls Try.prog 7 #[] w fun e w' => e = .returned (.bool true) ∧ Chg (fun _ => False) w w' := by
  have k1 : ¬ K24 = 0 := by decide
  have k2 : ¬ K49 = 0 := by decide
  obtain ⟨k, hk⟩ : ∃ k, k = kOne := ⟨_, rfl⟩
  have rb : ∀ w, Sem.run Try.prog bKey w = .ok (.agg (keyCells k).toArray) w := fun w => by rw [hk]; exact run_bKey w
  have st := fun W => store_key Try.prog k W
  have sl1 : (keyCells k).length = 24 := keyCells_length k
  have sl2 : ¬ (keyCells k).length ≠ K24 := by rw [sl1]; decide
  have ld := fun W : World => (cellsAt_new W (keyCells k) 24).load Try.prog K24 (keyCells_length k)
  have ld2 := fun (W : World) (o : Obj) => ((cellsAt_new W (keyCells k) 24).alloc o).load Try.prog K24 (keyCells_length k)
  have HK := Lib.hid hk
  clear hk
  go_enter Try.func7, Try.ntmps7
  go_wp2_with fail
  refine (new_any 3 w).mono ?_
  rintro e w1 ⟨rfl, X1, L1⟩
  have hp1 : w.heap.size < w1.heap.size := L1.lt
  have X1 := Lib.hid X1
  have L1 := Lib.hid L1
  go_wp2_with fail
  -- Add(5, [k])
  have LA : LogAt (((w1.alloc (.cells (keyCells k).toArray 24)).alloc (.cells (spanCells ⟨k, zeroKey, true⟩).toArray 26)).alloc (.cells (keyCells k).toArray 24)) w.heap.size w.heap.size (.slice none 0 0) [] (max 3 0) (max 3 0) := L1.out.ext (((Ext.refl _).alloc _).alloc _ |>.alloc _)
  have CA : CellsAt (((w1.alloc (.cells (keyCells k).toArray 24)).alloc (.cells (spanCells ⟨k, zeroKey, true⟩).toArray 26)).alloc (.cells (keyCells k).toArray 24)) (w1.heap.size + 2) 0 (keyCells k) := by
    have := cellsAt_new ((w1.alloc (.cells (keyCells k).toArray 24)).alloc (.cells (spanCells ⟨k, zeroKey, true⟩).toArray 26)) (keyCells k) 24
    simp only [World.size_alloc] at this; exact this
  have CB : Hid (CellsAt (((w1.alloc (.cells (keyCells k).toArray 24)).alloc (.cells (spanCells ⟨k, zeroKey, true⟩).toArray 26)).alloc (.cells (keyCells k).toArray 24)) w1.heap.size 0 (keyCells k)) := ((cellsAt_new w1 (keyCells k) 24).alloc _).alloc _
  have CC : Hid (CellsAt (((w1.alloc (.cells (keyCells k).toArray 24)).alloc (.cells (spanCells ⟨k, zeroKey, true⟩).toArray 26)).alloc (.cells (keyCells k).toArray 24)) (w1.heap.size + 1) 0 (spanCells ⟨k, zeroKey, true⟩)) := by
    have := (cellsAt_new (w1.alloc (.cells (keyCells k).toArray 24)) (spanCells ⟨k, zeroKey, true⟩) 26).alloc (.cells (keyCells k).toArray 24)
    simp only [World.size_alloc] at this; exact this
  have XA : Hid (Ext w (((w1.alloc (.cells (keyCells k).toArray 24)).alloc (.cells (spanCells ⟨k, zeroKey, true⟩).toArray 26)).alloc (.cells (keyCells k).toArray 24))) := ((X1.out.alloc _).alloc _).alloc _
  have add := add_ok _ _ _ _ _ _ _ 5 _ [k] LA (by decide) (keysIn_one CA) (by simp) (by simp)
  clear LA CA rb st sl1 sl2 ld ld2
  generalize ((w1.alloc (.cells (keyCells k).toArray 24)).alloc (.cells (spanCells ⟨k, zeroKey, true⟩).toArray 26)).alloc (.cells (keyCells k).toArray 24) = wa at CB CC XA add ⊢
  refine add.mono ?_
  clear add
  rintro e w4 ⟨rfl, v4, sl, ks', hp, L4, X4, _⟩
  obtain rfl : ks' = [k] := List.perm_singleton.1 hp
  have X4' : Chg (fun i => i = w.heap.size) wa w4 := X4.mono (fun i _ h => h.elim id (fun h => by simp [Value.ownBlock] at h))
  have L4 : Hid (LogAt w4 w.heap.size w.heap.size v4 [⟨5, sl, [k]⟩] 5 3) := L4
  have CB4 : Hid (CellsAt w4 w1.heap.size 0 (keyCells k)) := X4'.cells CB.out (by omega)
  have CC4 : Hid (CellsAt w4 (w1.heap.size + 1) 0 (spanCells ⟨k, zeroKey, true⟩)) := X4'.cells CC.out (by omega)
  have Y4 : Hid (Chg (fun _ => False) w w4) := (XA.out.chg _).trans X4' (fun i hi h => by omega)
  clear X4 X4' hp CB CC XA
  -- Conflicts(3, s), Conflicts(5, s)
  have s1 : (decide ((3 : Int) < 5) && inSp k ⟨k, zeroKey, true⟩) = true := by simp [inSp, ltK_irrefl]
  have s2 : (decide ((5 : Int) < 5) && inSp k ⟨k, zeroKey, true⟩) = false := by simp
  have q1 := Lib.hid (conf_at (since := 3) L4.out (by decide) (by decide) CC4.out s1)
  clear s1
  go_wp2_with fail
  refine q1.out.mono ?_
  rintro e w5 ⟨rfl, X5⟩
  have q2 := Lib.hid (conf_at (since := 5) (L4.out.ext X5) (by decide) (by decide) (X5.cells CC4.out) s2)
  clear s2 q1
  go_wp2_with fail
  refine q2.out.mono ?_
  rintro e w6 ⟨rfl, X6⟩
  clear q2
  have CB6 : CellsAt w6 w1.heap.size 0 (keyCells k) := (X5.trans X6).cells CB4.out
  have ld6 := CB6.load Try.prog K24 (keyCells_length k)
  have X6 := Lib.hid (X5.trans X6)
  clear X5 CB6
  go_wp2_with fail
  have s3 : (decide ((3 : Int) < 5) && inSp k ⟨zeroKey, k, false⟩) = false := by simp [inSp, ltK_irrefl]
  have q3 := conf_at (since := 3) (L4.out.ext (X6.out.alloc _)) (by decide) (by decide) (cellsAt_new w6 (spanCells ⟨zeroKey, k, false⟩) 26) s3
  clear s3
  refine q3.mono ?_
  clear q3
  rintro e w7 ⟨rfl, X7⟩
  have X7 := Lib.hid ((X6.out.alloc _).trans X7)
  clear X6 ld6
  have L7 := Lib.hid (L4.out.ext X7.out)
  go_wp2_with fail
  -- Len, Prune(5)
  refine (len_any _ _ _ _ _ _ _ L7.out (by simp [total])).mono ?_
  rintro e w8 ⟨rfl, X8⟩
  have t1 : (total [(⟨5, sl, [k]⟩ : Cm)] : Nat) = 1 := by simp [total]
  rw [t1]
  clear t1
  have L8 := Lib.hid (L7.out.ext X8)
  have X8 := Lib.hid (X7.out.trans X8)
  go_wp2_with fail
  refine (prune_any _ _ _ _ _ _ _ 5 L8.out (grows_one _) (by simp)).mono ?_
  rintro e w9 ⟨rfl, m, v9, hu, L9, X9, _⟩
  have hm := upTo_all hu (show (5 : Int) ≤ min 5 5 by decide)
  subst hm
  have L9 : Hid (LogAt w9 w.heap.size w.heap.size v9 [] 5 5) := L9
  have Y9 : Hid (Chg (fun _ => False) w w9) := (Y4.out.trans (X8.out.chg (fun i => i = w.heap.size)) (fun i hi h => by omega)).trans X9 (fun i hi h => by omega)
  clear hu X9 L7 X7
  go_wp2_with fail
  refine (conf_state _ _ _ _ _ _ _ 4 _ L9.out (by decide) (by decide)).mono ?_
  rintro e w10 ⟨rfl, rfl⟩
  go_wp2_with fail
  refine (conf_arg _ _ _ _ _ _ _ 6 _ L9.out (by decide)).mono ?_
  rintro e w11 ⟨rfl, rfl⟩
  go_wp2_with fail
  refine (last_any _ _ _ _ _ _ _ L9.out).mono ?_
  rintro e w12 ⟨rfl, rfl⟩
  go_wp2_with fail
  refine (floor_any _ _ _ _ _ _ _ L9.out).mono ?_
  rintro e w12 ⟨rfl, rfl⟩
  go_wp2_with fail
  refine (len_any _ _ _ _ _ _ _ L9.out (by simp [total])).mono ?_
  rintro e w13 ⟨rfl, X13⟩
  have t1 : (total ([] : List Cm) : Nat) = 0 := by simp [total]
  rw [t1]
  clear t1
  go_wp2_with fail
  go_ret
  exact ⟨rfl, Y9.out.trans (X13.chg (fun _ => False)) (fun i hi h => h)⟩
end Go.Proofs.Ytgkjckfkbpijpaa
