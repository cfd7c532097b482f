/- The reference's Clone. -/
import Derived.Test.YtedcpmkfanlicaaRfFlush
import Derived.Laws.AppendOwnNone
set_option linter.unusedVariables false
set_option linter.unusedSimpArgs false
namespace Go.Proofs.Ytedcpmkfanlicaa
open Go Go.RowKit Go.Sort Go.Lib Go.Maps Go.Deep
/-- append of whatever slice onto a row of the call's own -/
theorem wpList_append_any {P : Program} {w : World} {ops : Array Oper} {rest : List Oper} {o : Oper} {a : Act} {Q : Exit → Act → World → Prop} (hgd : o.guard = none) (s x : Operand) (t : TypeId)
    (ho : o.op = .call { callee := .builtin .append, args := #[s, x], argTypes := #[t, t] })
    (base : Nat) (e : TypeId) (i : TypeInfo) (z : Value) (size bytes : Nat) (ht : P.underlying t = some (.slice e)) (hi : P.info? e = some i) (hz : i.zero = some z)
    (hsize : i.size = size) (hby : i.bytes = bytes) (hzs : z.cells.size = size) (hsz : 0 < size)
    (v : Value) (n : Nat) (xs : List Value) (hs : a.eval s = v) (hown : w.ownsRow base e size v n xs)
    (ao : Option Addr) (m c : Nat) (news : List Value) (hx : a.eval x = .slice ao m c) (hl : news.length = m * size) (hn : ao = none → m = 0 ∧ c = 0) (hnews : ∀ ad, ao = some ad → ∀ j u, news[j]? = some u → w.cell? (ad.add j) = some u) (h1 : ∀ u ∈ news, u.oneCell' = true)
    (h63 : n + m ≤ maxLen) (hbytes : (n + m) * bytes ≤ 140737488355328) (hbase : base ≤ w.heap.size)
    (h : ∀ v' w', w'.ownsRow base e size v' (n + m) (xs ++ news) → Chg (fun i => base ≤ i) w w' → wpList P ops Q rest (a.put o.dst v') w') : wpList P ops Q (o :: rest) a w := by
  cases ao with
  | none =>
    obtain ⟨rfl, rfl⟩ := hn rfl
    have e0 : news = [] := List.eq_nil_of_length_eq_zero (by rw [hl]; simp)
    subst e0
    exact wpList_append_own_none hgd s x t ho base e i size ht hi v n xs hs hown hx (h v w (by simpa using hown) (Chg.refl _ _))
  | some ad =>
    exact wpList_append_own w hgd s x t ho base e i z size bytes ht hi hz hsize hby hzs hsz v n xs hs hown ad m c news hx hl (hnews ad rfl) h1 h63 hbytes hbase
      fun v' w' h2 h3 _ => h v' w' h2 (h3.chg.mono fun j _ hj => (hown.lt j hj).1)
theorem info80' : (Try.prog.info? 80).map (fun i => (i.zero, i.size, i.bytes)) = some (some (.agg #[.int .i64 0, .string ⟨#[]⟩, .string ⟨#[]⟩]), 3, 40) := by kernel_rfl
theorem owns_nil {w : World} {B e k n c : Nat} {a : Option Addr} {xs : List Value} (h : w.ownsRow B e k (.slice a n c) n xs) : a = none → n = 0 ∧ c = 0 := by
  rintro rfl
  rcases owns_shape h with ⟨e, h0⟩ | ⟨g, cap, e, _⟩
  · simp only [Value.slice.injEq] at e; exact ⟨h0, e.2.2⟩
  · simp at e
theorem owns_news {w : World} {B e k n c : Nat} {a : Option Addr} {xs : List Value} (h : w.ownsRow B e k (.slice a n c) n xs) {w' : World} (X : Chg (fun _ => False) w w') : ∀ ad, a = some ad → ∀ j u, xs[j]? = some u → w'.cell? (ad.add j) = some u := by
  rintro ad rfl j u hj
  rcases owns_shape h with ⟨e, h0⟩ | ⟨g, cap, e, _⟩
  · simp at e
  · have e' := e
    simp only [Value.slice.injEq, Option.some.injEq] at e
    obtain ⟨rfl, _, rfl⟩ := e
    have := X.cells (owns_cells h rfl) id j u hj
    rw [Addr.add_lit]
    exact this
section
variable {w : World} {R : Rl} {r : Rf}
set_option maxHeartbeats 2000000 in
set_option maxRecDepth 100000 in
theorem cloneR_any (H : RfIs w R r) (hL : r.L.length ≤ 1000) (hO : r.lo.length ≤ 1000) : Calls Try.prog 26 #[.pointer (some ⟨R.p, 0, none⟩)] w fun e w' => ∃ R', e = .returned (.pointer (some ⟨R'.p, 0, none⟩)) ∧ RfIs w' R' r ∧ (∀ i, RFt R' i → w.heap.size ≤ i) ∧ Chg (fun _ => False) w w' := by
  have mixed := Try.mixed
  obtain ⟨a, c, hv⟩ := owns_len H.ownL
  obtain ⟨m, hm⟩ : ∃ m, m = r.L.length := ⟨_, rfl⟩
  rw [← hm] at hv
  obtain ⟨oa, oc, hv2⟩ := owns_len H.ownO
  obtain ⟨q, hq⟩ : ∃ q, q = r.lo.length := ⟨_, rfl⟩
  rw [← hq] at hv2
  have EL := Lib.hid hv
  have EO := Lib.hid hv2
  have HM := Lib.hid hm.symm
  have HQ := Lib.hid hq.symm
  have hm1 : m ≤ 1000 := by omega
  have hq1 : q ≤ 1000 := by omega
  have HH := Lib.hid H
  have c0 : w.cell? ⟨R.p, 0, none⟩ = some (.int .i64 r.n) := by have := (H.cell (j := 0) rfl).1; exact this
  have c1 : w.cell? ⟨R.p, 1, none⟩ = some (.slice a m c) := by have := (H.cell (j := 1) rfl).1; rw [EL.out] at this; exact this
  have c2 : w.cell? ⟨R.p, 2, none⟩ = some (.slice oa q oc) := by have := (H.cell (j := 2) rfl).1; rw [EO.out] at this; exact this
  have c3 : w.cell? ⟨R.p, 3, none⟩ = some (.bool r.down) := by have := (H.cell (j := 3) rfl).1; exact this
  have c4 : w.cell? ⟨R.p, 4, none⟩ = some (.int .i64 r.calls) := by have := (H.cell (j := 4) rfl).1; exact this
  have c5 : w.cell? ⟨R.p, 5, none⟩ = some (.int .i64 r.armed) := by have := (H.cell (j := 5) rfl).1; exact this
  have c6 : w.cell? ⟨R.p, 6, none⟩ = some (.int .u64 r.mask) := by have := (H.cell (j := 6) rfl).1; exact this
  have c7 : w.cell? ⟨R.p, 7, none⟩ = some (.int .i64 r.torn) := by have := (H.cell (j := 7) rfl).1; exact this
  have c8 : w.cell? ⟨R.p, 8, none⟩ = some (.int .i64 r.bytes) := by have := (H.cell (j := 8) rfl).1; exact this
  clear hv hv2 hm hq hL hO H
  go_enter Try.func26, Try.ntmps26
  go_upto_region 2 with fail
  obtain ⟨P, hP⟩ : ∃ P, P = w.heap.size := ⟨_, rfl⟩
  obtain ⟨w1, h1⟩ : ∃ W, W = w.alloc (.cells (rfCells r (.slice a m c) (.slice oa q oc)) 76) := ⟨_, rfl⟩
  have h1' : w.alloc (.cells #[.int .i64 r.n, .slice a m c, .slice oa q oc, .bool r.down, .int .i64 r.calls, .int .i64 r.armed, .int .u64 r.mask, .int .i64 r.torn, .int .i64 r.bytes] 76) = w1 := by rw [h1]; rfl
  rw [h1', ← hP]
  have X1 : Hid (Chg (fun _ => False) w w1) := by show Chg _ _ _; rw [h1]; exact chg_alloc _ _ _
  have B1 : Hid (w1.heap[P]? = some (.cells (rfCells r (.slice a m c) (.slice oa q oc)) 76 (0, 0))) := by show _ = _; rw [h1, hP]; exact heap_alloc_new w _
  have S1 : Hid (w1.heap.size = P + 1) := by show _ = _; rw [h1, hP]; simp
  have HP := Lib.hid hP.symm
  have lt1 : Hid (R.p < P) := by show _ < _; rw [hP]; exact blk_lt HH.out.blk
  have C1 : w1.cell? ⟨R.p, 1, none⟩ = some (.slice a m c) := X1.out.cell c1 id
  have C2 := Lib.hid (X1.out.cell c2 id)
  clear h1 h1' hP c0 c1 c2 c3 c4 c5 c6 c7 c8
  have XA : Hid (Chg (fun _ => False) w1 (w1.alloc (.cells #[] 80))) := chg_alloc _ _ _
  have C1a : (w1.alloc (.cells #[] 80)).cell? ⟨R.p, 1, none⟩ = some (.slice a m c) := XA.out.cell C1 id
  obtain ⟨i0, hi, hz0, hz1, hz2⟩ := info_parts info80'
  have own0 := Lib.hid (World.ownsRow_made (e := 80) (size := 3) (base := w1.heap.size) w1 #[] 0 (Nat.le_refl _) (Nat.zero_le _) (by simp))
  have oL : w.ownsRow 0 80 3 (.slice a m c) m (flat rbCells r.L) := by have := HH.out.ownL; rw [EL.out, HM.out] at this; exact this
  have N1 : Hid ((flat rbCells r.L).length = m * 3) := by show _ = _; rw [← HM.out]; exact flat_length rbCells_length _
  have NN := Lib.hid (owns_nil oL)
  have N2 := Lib.hid (owns_news oL (X1.out.trans XA.out (fun _ _ h => h)))
  have N3 : Hid (∀ u ∈ flat rbCells r.L, u.oneCell' = true) := flat_one rbCells_one _
  clear oL
  go_wp2_with (at_builtin; refine wpList_append_any rfl _ _ 74 rfl w1.heap.size 80 i0 (.agg #[.int .i64 0, .string ⟨#[]⟩, .string ⟨#[]⟩]) 3 40 Try.underlying74 hi hz0 hz1 hz2 rfl (by decide) _ _ _ rfl own0.out a m c (flat rbCells r.L) rfl N1.out NN.out N2.out N3.out ?c1 ?c2 ?c3 ?_)
  case c1 => unfold maxLen; omega
  case c2 => omega
  case c3 => simp
  intro v1 w2 hown2 hch2
  have X2 : Hid (Chg (fun i => w1.heap.size ≤ i) w1 w2) := (XA.out.mono (fun _ _ h => h.elim)).trans hch2 (fun _ _ h => h)
  have OW2 : Hid (w2.ownsRow w1.heap.size 80 3 v1 m (flat rbCells r.L)) := by show World.ownsRow _ _ _ _ _ _ _; simpa using hown2
  have Z2 : Hid (w1.heap.size ≤ w2.heap.size) := X2.out.size
  clear hown2 hch2 own0 N1 NN N2 N3 C1 C1a hi hz0 hz1 hz2 XA
  obtain ⟨a1, k1, hv1⟩ := owns_len OW2.out
  subst hv1
  have B2 : Hid (w2.heap[P]? = some (.cells (rfCells r (.slice a m c) (.slice oa q oc)) 76 (0, 0))) := by show _ = _; rw [X2.out.block P (by rw [S1.out]; omega) (by rw [S1.out]; omega)]; exact B1.out
  have d1 : w2.cell? ⟨P, 1, none⟩ = some (.slice a m c) := (cell_of_blk B2.out (j := 1) rfl).1
  have g1 : w2.frozen? ⟨P, 1, none⟩ = false := (cell_of_blk B2.out (j := 1) rfl).2
  go_upto_region 3 with fail
  obtain ⟨w3, h3⟩ : ∃ W, W = w2.setCell ⟨P, 1, none⟩ (.slice a1 m k1) := ⟨_, rfl⟩
  rw [← h3]
  have X3 : Hid (Chg (fun i => i = P) w2 w3) := by show Chg _ _ _; rw [h3]; exact chg_setCell w2 ⟨P, 1, none⟩ _
  have B3 : Hid (w3.heap[P]? = some (.cells (rfCells r (.slice a1 m k1) (.slice oa q oc)) 76 (0, 0))) := by show _ = _; rw [h3]; exact heap_setCell_same w2 P 1 _ 76 _ B2.out
  have OW3 : Hid (w3.ownsRow w1.heap.size 80 3 (.slice a1 m k1) m (flat rbCells r.L)) := X3.out.owns OW2.out (fun i hi e => by have := (OW2.out.lt i hi).1; have := S1.out; omega)
  have Z3 : Hid (w1.heap.size ≤ w3.heap.size) := Nat.le_trans Z2.out X3.out.size
  have X13 : Hid (Chg (fun i => P ≤ i) w1 w3) := (X2.out.mono (fun i hi h => by have := S1.out; omega)).trans X3.out (fun i hi h => by omega)
  clear h3 d1 g1 B1 B2 OW2 X2 X3
  have C3 : w3.cell? ⟨R.p, 2, none⟩ = some (.slice oa q oc) := X13.out.cell C2.out (by have := lt1.out; simp; omega)
  have XA : Hid (Chg (fun _ => False) w3 (w3.alloc (.cells #[] 3))) := chg_alloc _ _ _
  have C3a : (w3.alloc (.cells #[] 3)).cell? ⟨R.p, 2, none⟩ = some (.slice oa q oc) := XA.out.cell C3 id
  obtain ⟨i0, hi, hz0, hz1, hz2⟩ := info_parts info3
  have own0 := Lib.hid (World.ownsRow_made (e := 3) (size := 1) (base := w3.heap.size) w3 #[] 0 (Nat.le_refl _) (Nat.zero_le _) (by simp))
  have oO : w.ownsRow 0 3 1 (.slice oa q oc) q (r.lo.map zV) := by have := HH.out.ownO; rw [EO.out, HQ.out] at this; exact this
  have oO3 : w3.ownsRow 0 3 1 (.slice oa q oc) q (r.lo.map zV) := X13.out.owns (X1.out.owns oO (fun _ _ h => h)) (fun i hi h => by have := (oO.lt i hi).2; have := HP.out; omega)
  have N1 : Hid ((r.lo.map zV).length = q * 1) := by show _ = _; rw [← HQ.out, List.length_map]; omega
  have NN := Lib.hid (owns_nil oO3)
  have N2 := Lib.hid (owns_news oO3 XA.out)
  have N3 : Hid (∀ u ∈ r.lo.map zV, u.oneCell' = true) := fun u hu => by obtain ⟨z, _, rfl⟩ := List.mem_map.1 hu; rfl
  clear oO oO3
  go_wp2_with (at_builtin; refine wpList_append_any rfl _ _ 44 rfl w3.heap.size 3 i0 (.int .i64 0) 1 8 Try.underlying44 hi hz0 hz1 hz2 rfl (by decide) _ _ _ rfl own0.out oa q oc (r.lo.map zV) rfl N1.out NN.out N2.out N3.out ?c4 ?c5 ?c6 ?_)
  case c4 => unfold maxLen; omega
  case c5 => omega
  case c6 => simp
  intro v2 w4 hown4 hch4
  have X4 : Hid (Chg (fun i => w3.heap.size ≤ i) w3 w4) := (XA.out.mono (fun _ _ h => h.elim)).trans hch4 (fun _ _ h => h)
  have OW4 : Hid (w4.ownsRow w3.heap.size 3 1 v2 q (r.lo.map zV)) := by show World.ownsRow _ _ _ _ _ _ _; simpa using hown4
  clear hown4 hch4 own0 N1 NN N2 N3 C3 C3a hi hz0 hz1 hz2 XA
  obtain ⟨a2, k2, hv2⟩ := owns_len OW4.out
  subst hv2
  have B4 : Hid (w4.heap[P]? = some (.cells (rfCells r (.slice a1 m k1) (.slice oa q oc)) 76 (0, 0))) := by show _ = _; rw [X4.out.block P (blk_lt B3.out) (by have := Z3.out; have := S1.out; omega)]; exact B3.out
  have d2 : w4.cell? ⟨P, 2, none⟩ = some (.slice oa q oc) := (cell_of_blk B4.out (j := 2) rfl).1
  have g2 : w4.frozen? ⟨P, 2, none⟩ = false := (cell_of_blk B4.out (j := 2) rfl).2
  have OL4 : Hid (w4.ownsRow w1.heap.size 80 3 (.slice a1 m k1) m (flat rbCells r.L)) := X4.out.owns OW3.out (fun i hi e => by have := (OW3.out.lt i hi).2; omega)
  go_wp2
  go_ret
  have X5 := chg_setCell w4 ⟨P, 2, none⟩ (.slice a2 q k2)
  have XX : Chg (fun i => P ≤ i) w1 (w4.setCell ⟨P, 2, none⟩ (.slice a2 q k2)) := (X13.out.trans X4.out (fun i hi h => by have := Z3.out; have := S1.out; omega)).trans X5 (fun i hi (e : i = P) => by omega)
  refine ⟨⟨P, .slice a1 m k1, .slice a2 q k2⟩, rfl, ⟨heap_setCell_same w4 P 2 _ 76 _ B4.out, ?_, ?_⟩, ?_, ?_⟩
  · have o := X5.owns OL4.out (fun i hi (e : i = P) => by have := (OL4.out.lt i hi).1; have := S1.out; omega)
    show World.ownsRow _ 0 80 3 _ r.L.length _
    rw [HM.out]
    exact owns_mono o (Nat.zero_le _)
  · have o := X5.owns OW4.out (fun i hi (e : i = P) => by have := (OW4.out.lt i hi).1; have := Z3.out; have := S1.out; omega)
    show World.ownsRow _ 0 3 1 _ r.lo.length _
    rw [HQ.out]
    exact owns_mono o (Nat.zero_le _)
  · have hp := HP.out
    have hs := S1.out
    have hz := Z3.out
    rintro i (h | h | h)
    · have h : i = P := h
      omega
    · have := (OL4.out.lt i h).1; omega
    · have := (OW4.out.lt i h).1; omega
  · exact X1.out.trans (XX.mono (T := fun i => P ≤ i) (fun _ _ h => h)) (fun i hi h => by have := HP.out; omega)
end
end Go.Proofs.Ytedcpmkfanlicaa
