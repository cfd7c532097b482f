/- The walk of LogSplits. -/
import Derived.Test.YtgkjckfkbpijpaaLogCauseW
set_option linter.unusedVariables false
set_option linter.unusedSimpArgs false
namespace Go.Proofs.Ytgkjckfkbpijpaa
open Go Go.RowKit Go.Sort Go.Lib
attribute [local go_sem ↓] run_size24 run_size49
attribute [local simp high] run_size24x run_size49x
attribute [local go_sem ↓] to_span1 to_span2 to_key1 to_spans1 to_keys1
attribute [local simp] is_bFrEn is_bTo is_bEn is_bFrTo is_bSpans1 is_bKeys1 run_bFrEn run_bTo run_bEn run_bFrTo run_bSpans1 run_bKeys1

/-- a key in a block of its own -/
def KeyAt (w : World) (b : Nat) (k : Key) : Prop := w.heap[b]? = some (.cells (keyCells k).toArray 24 (0, 0))
theorem KeyAt.lt {w : World} {b : Nat} {k : Key} (h : KeyAt w b k) : b < w.heap.size := by
  by_cases hlt : b < w.heap.size
  · exact hlt
  · unfold KeyAt at h; rw [Array.getElem?_eq_none (by omega)] at h; exact absurd h (by simp)
theorem KeyAt.cells {w : World} {b : Nat} {k : Key} (h : KeyAt w b k) : CellsAt w b 0 (keyCells k) := fun j v hj => by
  rw [Nat.zero_add]
  exact (cell_of_blk h (by simpa using hj)).1
theorem KeyAt.chg {w w' : World} {b : Nat} {k : Key} {S : Nat → Prop} (h : KeyAt w b k) (X : Chg S w w') (hs : ¬ S b) : KeyAt w' b k := by
  unfold KeyAt; rw [X.block b h.lt hs]; exact h
theorem KeyAt.put {w : World} {b : Nat} {k : Key} (h : KeyAt w b k) (k' : Key) : ∃ w', Sem.run Try.prog (storeCells ⟨b, 0, none⟩ (keyCells k') 0) w = .ok () w' ∧ KeyAt w' b k' ∧ Chg (fun i => i = b) w w' := by
  refine ⟨_, run_storeCells_at Try.prog b 0 24 (keyCells k') 0 _ _ h (by simp [keyCells_length]) (keyCells_one k'), ?_, ?_⟩
  · unfold KeyAt
    rw [setRow_heap _ _ _ _ _ _ h]
    simp [keyCells_length]
  · exact ⟨rfl, rfl, rfl, by rw [setRow_size]; exact Nat.le_refl _, fun i _ hi => setRow_other _ _ _ _ hi⟩
theorem keyAt_new (w : World) (k : Key) : KeyAt (w.alloc (.cells (keyCells k).toArray 24)) w.heap.size k := heap_alloc_new w _
theorem LogMade.apart {w w' : World} {p : Nat} {kss : List (List Key)} {k : Nat} (h : LogMade w p kss k) (X : Chg (fun i => i < p) w w') : LogMade w' p kss k := by
  obtain ⟨cs, v, h, m⟩ := h
  exact ⟨cs, v, h.chg X (Nat.lt_irrefl _) (fun i hi => Nat.not_lt.2 (h.own.lt i hi).1) (fun c hc i hi => Nat.not_lt.2 ((h.keys c hc).1.lt i hi).1), m⟩
/-- three keys in three blocks of the call's own, and the log -/
structure Three (w0 w : World) (B p : Nat) (kss : List (List Key)) (k : Nat) (x y z : Key) : Prop where
  a : KeyAt w B x
  b : KeyAt w (B + 1) y
  c : KeyAt w (B + 2) z
  log : LogMade w p kss k
  chg : Chg (fun i => B ≤ i) w0 w
  far : B + 3 ≤ p
theorem Three.ext {w0 w w' : World} {B p : Nat} {kss : List (List Key)} {k : Nat} {x y z : Key} (h : Three w0 w B p kss k x y z) (X : Ext w w') : Three w0 w' B p kss k x y z :=
  ⟨h.a.chg (X.chg fun _ => False) id, h.b.chg (X.chg fun _ => False) id, h.c.chg (X.chg fun _ => False) id, h.log.ext X, h.chg.trans (X.chg fun _ => False) (fun _ _ h => h.elim), h.far⟩
theorem Three.swap1 {w0 w : World} {B p : Nat} {kss : List (List Key)} {k : Nat} {x y z : Key} (h : Three w0 w B p kss k x y z) :
    ∃ w1 w2, Sem.run Try.prog (storeCells ⟨B, 0, none⟩ (keyCells y) 0) w = .ok () w1 ∧ Sem.run Try.prog (storeCells ⟨B + 1, 0, none⟩ (keyCells x) 0) w1 = .ok () w2 ∧ Three w0 w2 B p kss k y x z := by
  obtain ⟨w1, e1, k1, X1⟩ := h.a.put y
  obtain ⟨w2, e2, k2, X2⟩ := (h.b.chg X1 (by omega)).put x
  have f := h.far
  exact ⟨w1, w2, e1, e2, k1.chg X2 (by omega), k2, (h.c.chg X1 (by omega)).chg X2 (by omega), (h.log.apart (X1.mono fun i _ e => by omega)).apart (X2.mono fun i _ e => by omega),
    (h.chg.trans X1 (fun i _ e => by omega)).trans X2 (fun i _ e => by omega), f⟩
theorem Three.swap2 {w0 w : World} {B p : Nat} {kss : List (List Key)} {k : Nat} {x y z : Key} (h : Three w0 w B p kss k x y z) :
    ∃ w1 w2, Sem.run Try.prog (storeCells ⟨B + 1, 0, none⟩ (keyCells z) 0) w = .ok () w1 ∧ Sem.run Try.prog (storeCells ⟨B + 2, 0, none⟩ (keyCells y) 0) w1 = .ok () w2 ∧ Three w0 w2 B p kss k x z y := by
  obtain ⟨w1, e1, k1, X1⟩ := h.b.put z
  obtain ⟨w2, e2, k2, X2⟩ := (h.c.chg X1 (by omega)).put y
  have f := h.far
  exact ⟨w1, w2, e1, e2, (h.a.chg X1 (by omega)).chg X2 (by omega), k1.chg X2 (by omega), k2, (h.log.apart (X1.mono fun i _ e => by omega)).apart (X2.mono fun i _ e => by omega),
    (h.chg.trans X1 (fun i _ e => by omega)).trans X2 (fun i _ e => by omega), f⟩
theorem Three.la {w0 w : World} {B p : Nat} {kss : List (List Key)} {k : Nat} {x y z : Key} (h : Three w0 w B p kss k x y z) : Sem.run Try.prog (loadCellsFrom ⟨B, 0, none⟩ 0 K24 #[]) w = .ok (keyCells x).toArray w := h.a.cells.load _ K24 (keyCells_length _)
theorem Three.lb {w0 w : World} {B p : Nat} {kss : List (List Key)} {k : Nat} {x y z : Key} (h : Three w0 w B p kss k x y z) : Sem.run Try.prog (loadCellsFrom ⟨B + 1, 0, none⟩ 0 K24 #[]) w = .ok (keyCells y).toArray w := h.b.cells.load _ K24 (keyCells_length _)
theorem Three.lc {w0 w : World} {B p : Nat} {kss : List (List Key)} {k : Nat} {x y z : Key} (h : Three w0 w B p kss k x y z) : Sem.run Try.prog (loadCellsFrom ⟨B + 2, 0, none⟩ 0 K24 #[]) w = .ok (keyCells z).toArray w := h.c.cells.load _ K24 (keyCells_length _)

theorem hit_split {a b c : Key} (h1 : ltK b a = false) (h2 : ltK c b = false) (ks : List Key) : hit ks ⟨a, c, false⟩ = (hit ks ⟨a, b, false⟩ || hit ks ⟨b, c, false⟩) := by
  have one : ∀ x, inSp x ⟨a, c, false⟩ = (inSp x ⟨a, b, false⟩ || inSp x ⟨b, c, false⟩) := by
    intro x
    simp only [inSp, Bool.false_or]
    cases e1 : ltK x b with
    | true => rw [ltK_leK e1 h2]; cases ltK x a <;> rfl
    | false =>
      cases e2 : ltK x a with
      | true => exact absurd (ltK_leK e2 h1) (by rw [e1]; decide)
      | false => cases ltK x c <;> rfl
  unfold hit
  rw [Bool.eq_iff_iff, Bool.or_eq_true, List.any_eq_true, List.any_eq_true, List.any_eq_true]
  simp only [one, Bool.or_eq_true]
  exact ⟨fun ⟨x, h1, h2⟩ => h2.imp (fun h => ⟨x, h1, h⟩) (fun h => ⟨x, h1, h⟩), fun h => h.elim (fun ⟨x, h1, h2⟩ => ⟨x, h1, .inl h2⟩) (fun ⟨x, h1, h2⟩ => ⟨x, h1, .inr h2⟩)⟩
theorem cause_split {a b c : Key} (h1 : ltK b a = false) (h2 : ltK c b = false) (kss : List (List Key)) (q n : Nat) : cause kss q n [⟨a, c, false⟩] = (cause kss q n [⟨a, b, false⟩] || cause kss q n [⟨b, c, false⟩]) := by
  unfold cause
  rw [Bool.eq_iff_iff, Bool.or_eq_true, List.any_eq_true, List.any_eq_true, List.any_eq_true]
  simp only [List.any_cons, List.any_nil, Bool.or_false, hit_split h1 h2, Bool.or_eq_true]
  exact ⟨fun ⟨x, h1, h2⟩ => h2.imp (fun h => ⟨x, h1, h⟩) (fun h => ⟨x, h1, h⟩), fun h => h.elim (fun ⟨x, h1, h2⟩ => ⟨x, h1, .inl h2⟩) (fun ⟨x, h1, h2⟩ => ⟨x, h1, .inr h2⟩)⟩
/-- the answer of the number before -/
def wasAt (kss : List (List Key)) (k : Nat) (ss : List Sp) : Nat → Bool
  | 0 => true
  | j + 1 => cause kss j k ss
theorem was_of {kss : List (List Key)} {k j : Nat} {ss : List Sp} (h : cause kss j k ss = true) : wasAt kss k ss j = true := by
  cases j with
  | zero => rfl
  | succ j =>
    show cause kss j k ss = true
    unfold cause at h ⊢
    rw [List.any_eq_true] at h ⊢
    obtain ⟨x, hx, h⟩ := h
    refine ⟨x, ?_, h⟩
    rw [← List.drop_drop] at hx
    exact List.mem_of_mem_drop hx

set_option maxHeartbeats 4000000 in
set_option maxRecDepth 100000 in
theorem logSplits_any (w : World) (ca : Option Addr) (ccap : Nat) (cvs : List Value) (kss : List (List Key)) (a b c : Key)
    (hc : 0 < kss.length → ∃ b off, ca = some ⟨b, off, none⟩ ∧ ComsIn w b off cvs kss) (hb : kss.length ≤ 9223372036854775807) :
    Calls Try.prog 6 #[.slice ca kss.length ccap, keyV a, keyV b, keyV c] w fun e w' => e = .returned (.bool true) ∧ Below w.heap.size w w' := by
  have k1 : ¬ K24 = 0 := by decide
  have k2 : ¬ K49 = 0 := by decide
  have HC := Lib.hid hc
  clear hc
  generalize hlen : kss.length = n at hb ⊢
  have HN := Lib.hid hlen
  clear hlen
  have E0 : Hid (Ext w (((w.alloc (.cells (keyCells a).toArray 24)).alloc (.cells (keyCells b).toArray 24)).alloc (.cells (keyCells c).toArray 24))) := (((Ext.refl w).alloc _).alloc _).alloc _
  have KA : Hid (KeyAt (((w.alloc (.cells (keyCells a).toArray 24)).alloc (.cells (keyCells b).toArray 24)).alloc (.cells (keyCells c).toArray 24)) w.heap.size a) := by
    show KeyAt _ _ _; exact ((keyAt_new w a).chg (chg_alloc _ _ fun _ => False) id).chg (chg_alloc _ _ fun _ => False) id
  have KB : Hid (KeyAt (((w.alloc (.cells (keyCells a).toArray 24)).alloc (.cells (keyCells b).toArray 24)).alloc (.cells (keyCells c).toArray 24)) (w.heap.size + 1) b) := by
    show KeyAt _ _ _; have := (keyAt_new (w.alloc (.cells (keyCells a).toArray 24)) b).chg (chg_alloc _ (.cells (keyCells c).toArray 24) fun _ => False) id; simp only [World.size_alloc] at this; exact this
  have KC : Hid (KeyAt (((w.alloc (.cells (keyCells a).toArray 24)).alloc (.cells (keyCells b).toArray 24)).alloc (.cells (keyCells c).toArray 24)) (w.heap.size + 2) c) := by
    show KeyAt _ _ _; have := keyAt_new ((w.alloc (.cells (keyCells a).toArray 24)).alloc (.cells (keyCells b).toArray 24)) c; simp only [World.size_alloc] at this; exact this
  unfold keyV
  go_enter Try.func6, Try.ntmps6
  go_wp2_with fail
  refine (shown_any _).mono ?_
  rintro e w1 ⟨rfl, X1⟩
  have X1 := Lib.hid X1
  go_wp2_with fail
  refine (new_made w1 kss).mono ?_
  rintro e w2 ⟨rfl, X2, L2⟩
  have Y2 : Hid (Chg (fun _ => False) (((w.alloc (.cells (keyCells a).toArray 24)).alloc (.cells (keyCells b).toArray 24)).alloc (.cells (keyCells c).toArray 24)) w2) := X1.out.trans (X2.chg _) (fun _ _ h => h)
  have L2 := Lib.hid L2
  have HP : Hid (w.heap.size + 3 ≤ w1.heap.size) := by have := X1.out.size; simp only [World.size_alloc] at this; exact this
  clear X1 X2
  generalize w1.heap.size = p at L2 HP ⊢
  generalize (((w.alloc (.cells (keyCells a).toArray 24)).alloc (.cells (keyCells b).toArray 24)).alloc (.cells (keyCells c).toArray 24)) = wa at E0 KA KB KC Y2
  go_upto_block 0 with fail
  go_cut [11, 12] (fun s11 s12 wx => ∃ k : Nat, s11 = .int .i64 k ∧ k = min n 30 ∧ Aside (Chg (fun j => p ≤ j) wa wx) ∧ Aside (LogMade wx p kss k))
  case rest =>
    clear L2 Y2
    obtain ⟨k, rfl, hk, X, L⟩ := hcut
    have hkn : k ≤ n := by omega
    have hk30 : k ≤ 30 := by omega
    clear hk
    have T : Hid (Three w wc w.heap.size p kss k a b c) :=
      ⟨KA.out.chg X.out (by have := HP.out; omega), KB.out.chg X.out (by have := HP.out; omega), KC.out.chg X.out (by have := HP.out; omega), L.out, (E0.out.chg (fun i => w.heap.size ≤ i)).trans X.out (fun i _ h => by have := HP.out; omega), HP.out⟩
    have l1 := T.out.la
    have l2 := T.out.lb
    have cl := Lib.hid (less_any b a wc)
    unfold keyV at cl
    clear KA KB KC E0 X L
    go_wp2_with fail
    refine cl.out.mono ?_
    rintro e w3 ⟨rfl, Z3⟩
    have T3 := Lib.hid (T.out.ext Z3)
    clear cl Z3 l1 l2 T
    go_upto_if 54 with fail
    go_cut [] (fun wx => ∃ x y, Aside (ltK y x = false) ∧ Aside (Three w wx w.heap.size p kss k x y c))
    case first =>
      have l1 := T3.out.la
      have l2 := T3.out.lb
      cases hlt : ltK b a with
      | true =>
        obtain ⟨wA, wB, e1, e2, T4⟩ := T3.out.swap1
        have T4 := Lib.hid T4
        have sl1 : (keyCells a).length = 24 := keyCells_length a
        have sl2 : ¬ (keyCells a).length ≠ K24 := by rw [sl1]; decide
        have sl3 : (keyCells b).length = 24 := keyCells_length b
        have sl4 : ¬ (keyCells b).length ≠ K24 := by rw [sl3]; decide
        go_wp2_with fail
        go_meet
        exact ⟨b, a, ltK_asymm hlt, T4.out⟩
      | false =>
        go_wp2_with fail
        go_meet
        exact ⟨a, b, hlt, T3.out⟩
    case rest =>
      obtain ⟨x, y, hxy, T⟩ := hcut
      have cl := Lib.hid (less_any c y wc)
      unfold keyV at cl
      have l1 := T.out.lb
      have l2 := T.out.lc
      clear T3
      go_wp2_with fail
      refine cl.out.mono ?_
      rintro e w4 ⟨rfl, Z4⟩
      have T4 := Lib.hid (T.out.ext Z4)
      clear cl Z4 l1 l2 T
      go_upto_if 59 with fail
      go_cut [] (fun wx => ∃ y1 z1, Aside (ltK z1 x = false) ∧ Aside (ltK z1 y1 = false) ∧ Aside (Three w wx w.heap.size p kss k x y1 z1))
      case first =>
        have l1 := T4.out.lb
        have l2 := T4.out.lc
        cases hlt : ltK c y with
        | true =>
          obtain ⟨wA, wB, e1, e2, T5⟩ := T4.out.swap2
          have T5 := Lib.hid T5
          have sl1 : (keyCells c).length = 24 := keyCells_length c
          have sl2 : ¬ (keyCells c).length ≠ K24 := by rw [sl1]; decide
          have sl3 : (keyCells y).length = 24 := keyCells_length y
          have sl4 : ¬ (keyCells y).length ≠ K24 := by rw [sl3]; decide
          go_wp2_with fail
          go_meet
          exact ⟨c, y, hxy.out, ltK_asymm hlt, T5.out⟩
        | false =>
          go_wp2_with fail
          go_meet
          refine ⟨y, c, ?_, hlt, T4.out⟩
          cases h : ltK c x with
          | false => rfl
          | true => exact absurd (ltK_leK h hxy.out) (by rw [hlt]; decide)
      case rest =>
        obtain ⟨y1, z1, hxz, hyz, T⟩ := hcut
        have cl := Lib.hid (less_any y1 x wc)
        unfold keyV at cl
        have l1 := T.out.la
        have l2 := T.out.lb
        clear T4
        go_wp2_with fail
        refine cl.out.mono ?_
        rintro e w5 ⟨rfl, Z5⟩
        have T5 := Lib.hid (T.out.ext Z5)
        clear cl Z5 l1 l2 T
        go_upto_if 64 with fail
        go_cut [] (fun wx => ∃ x2 y2, Aside (ltK y2 x2 = false) ∧ Aside (ltK z1 y2 = false) ∧ Aside (Three w wx w.heap.size p kss k x2 y2 z1))
        case first =>
          have l1 := T5.out.la
          have l2 := T5.out.lb
          cases hlt : ltK y1 x with
          | true =>
            obtain ⟨wA, wB, e1, e2, T6⟩ := T5.out.swap1
            have T6 := Lib.hid T6
            have sl1 : (keyCells x).length = 24 := keyCells_length x
            have sl2 : ¬ (keyCells x).length ≠ K24 := by rw [sl1]; decide
            have sl3 : (keyCells y1).length = 24 := keyCells_length y1
            have sl4 : ¬ (keyCells y1).length ≠ K24 := by rw [sl3]; decide
            go_wp2_with fail
            go_meet
            exact ⟨y1, x, ltK_asymm hlt, hxz.out, T6.out⟩
          | false =>
            go_wp2_with fail
            go_meet
            exact ⟨x, y1, hlt, hyz.out, T5.out⟩
        case rest =>
          obtain ⟨x2, y2, h12, h23, T⟩ := hcut
          clear T5
          go_wp2
          go_loopg [13, 14] (k + 1) (fun kx s13 s14 wr => ∃ j : Nat, s13 = .bool (wasAt kss k [⟨x2, z1, false⟩] j) ∧ s14 = .int .i64 j ∧ j ≤ k + 1 ∧ k + 1 - j ≤ kx ∧ Aside (Ext wc wr))
          case atStart => exact ⟨0, rfl, rfl, Nat.zero_le _, by omega, Ext.refl _⟩
          case round =>
            obtain ⟨j, rfl, rfl, hjk, hg, Y⟩ := hrel
            have TR := Lib.hid (T.out.ext Y.out)
            by_cases hlt : j ≤ k
            · have z1' : (j : Int) ≤ (k : Int) := by omega
              have l1 := TR.out.la
              have l2 := TR.out.lb
              have q1 := Lib.hid (conf_made (TR.out.log.ext ((Ext.refl wr).alloc (.cells (spanCells ⟨x2, y2, false⟩).toArray 26))) hlt (spansIn_one (cellsAt_new wr (spanCells ⟨x2, y2, false⟩) 26)) (by simp))
              go_wp2_with fail
              refine q1.out.mono ?_
              rintro e w3 ⟨rfl, Z3⟩
              have Z3 : Hid (Ext wr w3) := ((Ext.refl wr).alloc _).trans Z3
              clear q1 l1 l2
              have TR3 := Lib.hid (TR.out.ext Z3.out)
              have l1 := TR3.out.lb
              have l2 := TR3.out.lc
              have q2 := Lib.hid (conf_made (TR3.out.log.ext ((Ext.refl w3).alloc (.cells (spanCells ⟨y2, z1, false⟩).toArray 26))) hlt (spansIn_one (cellsAt_new w3 (spanCells ⟨y2, z1, false⟩) 26)) (by simp))
              go_wp2_with fail
              refine q2.out.mono ?_
              rintro e w4 ⟨rfl, Z4⟩
              have Z4 : Hid (Ext w3 w4) := ((Ext.refl w3).alloc _).trans Z4
              clear q2 l1 l2
              have TR4 := Lib.hid (TR3.out.ext Z4.out)
              have l1 := TR4.out.la
              have l2 := TR4.out.lc
              have q3 := conf_made (TR4.out.log.ext ((Ext.refl w4).alloc (.cells (spanCells ⟨x2, z1, false⟩).toArray 26))) hlt (spansIn_one (cellsAt_new w4 (spanCells ⟨x2, z1, false⟩) 26)) (by simp)
              have q3 := Lib.hid q3
              go_wp2_with fail
              refine q3.out.mono ?_
              rintro e w5 ⟨rfl, Z5⟩
              have Z5 : Hid (Ext w4 w5) := ((Ext.refl w4).alloc _).trans Z5
              clear q3 l1 l2
              have WS := Lib.hid (was_of (kss := kss) (k := k) (j := j) (ss := [⟨x2, z1, false⟩]))
              have NX : Hid (wasAt kss k [⟨x2, z1, false⟩] (j + 1) = cause kss j k [⟨x2, z1, false⟩]) := rfl
              have CSP := Lib.hid (cause_split h12.out h23.out kss j k)
              have YY : Hid (Ext wc w5) := ((Y.out.trans Z3.out).trans Z4.out).trans Z5.out
              generalize cause kss j k [⟨x2, z1, false⟩] = bz at *
              generalize cause kss j k [⟨x2, y2, false⟩] = bx at *
              generalize cause kss j k [⟨y2, z1, false⟩] = bby at *
              generalize wasAt kss k [⟨x2, z1, false⟩] j = bw at *
              obtain rfl : bz = (bx || bby) := CSP.out
              have RL : Hid (∃ j' : Nat, Value.bool (bx || bby) = .bool (wasAt kss k [⟨x2, z1, false⟩] j') ∧ ((j' : Int) = (j : Int) + 1) ∧ j' ≤ k + 1 ∧ k + 1 - j' ≤ k + 1 - (j + 1)) := ⟨j + 1, by rw [NX.out], by omega, by omega, by omega⟩
              cases bx <;> cases bby <;> cases bw <;> first
                | exact absurd (WS.out rfl) (by decide)
                | (go_wp2
                   go_roundg (k + 1 - (j + 1))
                   case measure => omega
                   case rel =>
                     obtain ⟨j', e1, e2, e3, e4⟩ := RL.out
                     exact ⟨j', e1, by first | (rw [e2]; done) | (rw [e2]; go_num) | (congr 1; omega), e3, e4, YY.out⟩)
            · obtain rfl : j = k + 1 := by omega
              have hz : ¬ ((k : Int) + 1 ≤ (k : Int)) := by omega
              have e0 : wasAt kss k [⟨x2, z1, false⟩] (k + 1) = false := cause_start kss k _
              have C : Hid (Below w.heap.size w wr) := by
                have C : Chg (fun i => w.heap.size ≤ i) w wr := T.out.chg.trans (Y.out.chg fun _ => False) (fun _ _ h => h.elim)
                exact C.below (Nat.le_refl _) (fun i hi h => h)
              rw [e0]
              go_wp2
              go_ret
              exact ⟨rfl, C.out⟩
  go_wp2
  go_loopg [11, 12] 30 (fun kx s11 s12 wr => ∃ i : Nat, s11 = .int .i64 i ∧ s12 = .int .i64 i ∧ i ≤ n ∧ i ≤ 30 ∧ 30 - i ≤ kx ∧ Aside (Chg (fun j => p ≤ j) wa wr) ∧ Aside (LogMade wr p kss i))
  case atStart => exact ⟨0, rfl, rfl, Nat.zero_le _, Nat.zero_le _, by omega, Y2.out.mono (fun _ _ h => h.elim), L2.out⟩
  case round =>
    clear L2 Y2
    obtain ⟨i, rfl, rfl, hin, hi30, hg, X, L⟩ := hrel
    by_cases hlt : i < n
    · by_cases hl3 : i < 30
      · have hik : i < kss.length := by have := HN.out; omega
        obtain ⟨cb, co, rfl, CI⟩ := HC.out (by omega)
        have hiv : i < cvs.length := by rw [CI.len]; exact hik
        have hcb : cb < w.heap.size := block_lt_of_cell (CI.cell i hiv)
        have hlow : cb < p := by have := HP.out; omega
        obtain ⟨ia, ic, hv, hic, hkeys⟩ := (CI.keys i hiv hik).cut 20
        have c1 : wr.cell? ⟨cb, co + i, none⟩ = some (.slice ia kss[i].length ic) := by
          rw [← hv]; exact X.out.cell (E0.out.cell (CI.cell i hiv)) (show ¬ p ≤ cb by omega)
        have hkw : ∀ W, Ext wr W → KeysIn W (.slice ia (min kss[i].length 20) ic) (kss[i].take 20) := fun W hW => by
          refine KeysIn.ext (w := wr) ?_ hW
          obtain ⟨a', c', e, hk⟩ := hkeys
          exact ⟨a', c', e, fun hp => let ⟨b, o, e', hr⟩ := hk hp; ⟨b, o, e', fun j hj => X.out.cells (E0.out.cells (hr j hj)) (by have := (hr j hj).lt (keyCells_ne _); have := HP.out; omega)⟩⟩
        have add := fun W (hW : Ext wr W) => add_made (L.out.ext hW) hik hl3 (hkw W hW)
        have cut := cut20 ia kss[i].length ic hic
        have HCI := Lib.hid CI
        have A := Lib.hid add
        clear CI hv hkeys hkw add
        generalize kss[i].length = m at c1 cut A hic
        go_wp2
        have z1 : (0 : Int) ≤ (i : Int) := Int.natCast_nonneg _
        have z2 : (i : Int) < (n : Int) := by omega
        go_region_held3 (fun w' => w'.cell? ⟨cb, co + i, none⟩ = some (.slice ia m ic)) (first | go_keep | exact k3) (first | (go_at_call 9; refine (A.out _ ((Ext.refl wr).drew)).mono ?_; rintro e w3 ⟨rfl, L3, X3⟩; have k3 := X3.cell c1 (show ¬ p ≤ cb by omega); have L3 := Lib.hid L3; have X3 := Lib.hid X3))
        go_wp2
        go_roundg (30 - (i + 1))
        case measure => omega
        case rel => exact ⟨i + 1, by go_num, by go_num, by omega, by omega, Nat.le_refl _, X.out.drew.trans X3.out (fun _ _ h => h), L3.out⟩
      · have hd : decide ((i : Int) < 30) = false := by simp; omega
        go_wp2_with fail
        go_meet
        exact ⟨i, rfl, by omega, X, L⟩
    · go_wp2_with fail
      go_meet
      exact ⟨i, rfl, by omega, X, L⟩
end Go.Proofs.Ytgkjckfkbpijpaa
