/- Crash and Flush by their contracts. -/
import Derived.Test.YtedcpmkfanlicaaDvClos
import Derived.Test.YtedcpmkfanlicaaDvSets
set_option linter.unusedVariables false
set_option linter.unusedSimpArgs false
namespace Go.Proofs.Ytedcpmkfanlicaa
open Go Go.RowKit Go.Sort Go.Lib Go.Maps

def toBytes (b : Int) : Nat := (min (max b 0) 512).toNat
theorem toBytes_le (b : Int) : toBytes b ≤ 512 := by unfold toBytes; omega
theorem toBytes_eq (b : Int) : min (max b 0) 512 = (toBytes b : Int) := by unfold toBytes; omega
def u64 (m : Int) : Prop := 0 ≤ m ∧ m < 18446744073709551616
section
variable {w : World} {p mf ml nf nl : Nat} {d : Dv} {G : Int → Option Blk} {lo : List (Int × Nw)}
set_option maxHeartbeats 1000000 in
theorem crash_down (H : DevAt w p d mf ml nf nl G lo) (hd : d.down = true) (mask torn bytes : Int) :
    Calls Try.prog 17 #[.pointer (some ⟨p, 0, none⟩), .int .u64 mask, .int .i64 torn, .int .i64 bytes] w fun e w' => e = .returned (.tuple #[]) ∧ DevAt w' p d mf ml nf nl G lo ∧ Chg (fun _ => False) w w' := by
  have E : Hid (Ext w (((w.alloc (.cells #[.int .u64 mask] 23)).alloc (.cells #[.int .i64 torn] 3)).alloc (.cells #[.int .i64 bytes] 3))) := (((Ext.refl w).alloc _).alloc _).alloc _
  have c0 : w.cell? ⟨p, 3, none⟩ = some (.bool d.down) := (H.cell (j := 3) rfl).1
  rw [hd] at c0
  have c := E.out.cell c0
  have HD := Lib.hid (H.ext E.out)
  clear H hd c0
  go_enter Try.func17, Try.ntmps17
  go_wp2
  refine bodyPost_ret (v := .tuple #[]) ?_ rfl ⟨rfl, HD.out, E.out.chg _⟩
  exact results_none rfl _ _ _
set_option maxHeartbeats 1000000 in
theorem crash_up (H : DevAt w p d mf ml nf nl G lo) (hd : d.down = false) (hc : d.clock ≤ 1000000) (hnl : nl ≤ 1000000) (hnf : nf + lo.length ≤ 1000000) (mask torn bytes : Int) (hm : u64 mask) :
    Calls Try.prog 17 #[.pointer (some ⟨p, 0, none⟩), .int .u64 mask, .int .i64 torn, .int .i64 bytes] w fun e w' => e = .returned (.tuple #[]) ∧ DevAt w' p { d with down := true, armed := 0 } mf ml (nf + lo.length) nl (settleG (resC mask torn (toBytes bytes)) 0 G lo) [] ∧ Chg (fun i => i = p ∨ i = mf ∨ i = ml) w w' := by
  have E : Hid (Ext w (((w.alloc (.cells #[.int .u64 mask] 23)).alloc (.cells #[.int .i64 torn] 3)).alloc (.cells #[.int .i64 bytes] 3))) := (((Ext.refl w).alloc _).alloc _).alloc _
  have c0 : w.cell? ⟨p, 3, none⟩ = some (.bool d.down) := (H.cell (j := 3) rfl).1
  rw [hd] at c0
  have c := E.out.cell c0
  have HA := Lib.hid (H.ext E.out)
  have plt := H.lt
  have mfl := H.fl.lt
  have mll := H.ls.lt
  have B2 : Hid ((((w.alloc (.cells #[.int .u64 mask] 23)).alloc (.cells #[.int .i64 torn] 3)).alloc (.cells #[.int .i64 bytes] 3)).heap[w.heap.size + 2]? = some (.cells #[.int .i64 bytes] 3 (0, 0))) := by
    have := heap_alloc_new ((w.alloc (.cells #[.int .u64 mask] 23)).alloc (.cells #[.int .i64 torn] 3)) (.cells #[.int .i64 bytes] 3)
    simp only [World.size_alloc] at this
    exact this
  have cm : Hid ((((w.alloc (.cells #[.int .u64 mask] 23)).alloc (.cells #[.int .i64 torn] 3)).alloc (.cells #[.int .i64 bytes] 3)).cell? ⟨w.heap.size, 0, none⟩ = some (.int .u64 mask)) :=
    (((Ext.refl _).alloc _).alloc _).cell (cellsAt_new w [.int .u64 mask] 23 0 _ rfl)
  have ct : Hid ((((w.alloc (.cells #[.int .u64 mask] 23)).alloc (.cells #[.int .i64 torn] 3)).alloc (.cells #[.int .i64 bytes] 3)).cell? ⟨w.heap.size + 1, 0, none⟩ = some (.int .i64 torn)) := by
    have := ((Ext.refl _).alloc (.cells #[.int .i64 bytes] 3)).cell (cellsAt_new (w.alloc (.cells #[.int .u64 mask] 23)) [.int .i64 torn] 3 0 _ rfl)
    simp only [World.size_alloc] at this
    exact this
  have cy := (cell_of_blk B2.out (j := 0) (u := .int .i64 bytes) rfl)
  obtain ⟨cy1, cy2⟩ := cy
  have tb := toBytes_eq bytes
  have tl := toBytes_le bytes
  generalize toBytes bytes = nb at tb tl ⊢
  have HT := Lib.hid tb
  clear H hd c0 tb
  go_enter Try.func17, Try.ntmps17
  go_upto_region 2 with fail
  generalize ((w.alloc (.cells #[.int .u64 mask] 23)).alloc (.cells #[.int .i64 torn] 3)).alloc (.cells #[.int .i64 bytes] 3) = wA at *
  have hb : min (max bytes 0) 512 = (nb : Int) := HT.out
  obtain ⟨wB, hwB⟩ : ∃ wB, wB = wA.setCell ⟨w.heap.size + 2, 0, none⟩ (.int .i64 (nb : Int)) := ⟨_, rfl⟩
  have XB : Hid (Chg (fun i => i = w.heap.size + 2) wA wB) := by show Chg _ _ _; rw [hwB]; exact chg_setCell wA ⟨w.heap.size + 2, 0, none⟩ _
  have cyB : Hid (wB.cell? ⟨w.heap.size + 2, 0, none⟩ = some (.int .i64 (nb : Int))) := by
    show _ = _
    rw [hwB]
    exact (cell_of_blk (heap_setCell_same wA _ 0 _ 3 _ B2.out) (j := 0) rfl).1
  have cmB := Lib.hid (XB.out.cell cm.out (fun e => by simp at e))
  have ctB := Lib.hid (XB.out.cell ct.out (fun e => by simp at e))
  have HB := Lib.hid (HA.out.chg XB.out (fun e => by omega) (fun e => by omega) (fun e => by omega))
  have se := settle_any HB.out hc hnl hnf 37 #[.pointer (some ⟨w.heap.size + 1, 0, none⟩), .pointer (some ⟨w.heap.size + 2, 0, none⟩), .pointer (some ⟨w.heap.size, 0, none⟩)] (resC mask torn nb) crash1_enters
    (crash1_any wB mf ml lo.length mask torn nb (w.heap.size + 1) (w.heap.size + 2) w.heap.size tl (by omega) hm ctB.out cyB.out cmB.out ⟨by omega, by omega⟩ ⟨by omega, by omega⟩ ⟨by omega, by omega⟩)
  have SE := Lib.hid se
  have HWB := Lib.hid hwB
  clear se hwB
  go_upto_region 3 with fail
  rw [← HWB.out]
  clear c cy1 cy2 hb
  go_wp2_with fail
  refine SE.out.mono ?_
  rintro e w2 ⟨rfl, D2, X2⟩
  have D2 := Lib.hid D2
  have c3 : w2.cell? ⟨p, 3, none⟩ = some (.bool d.down) := (D2.out.cell (j := 3) rfl).1
  have f3 : w2.frozen? ⟨p, 3, none⟩ = false := (D2.out.cell (j := 3) rfl).2
  have c6 : w2.cell? ⟨p, 6, none⟩ = some (.int .i64 d.armed) := (D2.out.cell (j := 6) rfl).1
  have f6 : w2.frozen? ⟨p, 6, none⟩ = false := (D2.out.cell (j := 6) rfl).2
  have X3 : Hid (Chg (fun i => i = p ∨ i = mf ∨ i = ml) w w2) := by
    have h1 : Chg (fun i => i = p ∨ i = mf ∨ i = ml) w wB := (E.out.chg _).trans XB.out (fun i hi h => by omega)
    exact h1.trans X2 (fun i hi h => .inr h)
  clear SE X2 cyB cmB ctB cm ct B2
  go_wp2
  go_end0
  have Z1 : Chg (fun i => i = p) w2 (w2.setCell ⟨p, 3, none⟩ (.bool true)) := chg_setCell w2 ⟨p, 3, none⟩ _
  have Z2 := Z1.trans (chg_setCell _ ⟨p, 6, none⟩ (.int .i64 0)) (fun i _ h => h)
  exact ⟨rfl, D2.out.fields Z2 (heap_setCell_same _ p 6 _ 62 _ (heap_setCell_same _ p 3 _ 62 _ D2.out.blk)) (Int.le_refl _), X3.out.trans Z2 (fun i hi h => .inl h)⟩
end
end Go.Proofs.Ytedcpmkfanlicaa
