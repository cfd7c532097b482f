/- The reference's Write. -/
import Derived.Test.YtedcpmkfanlicaaRfFlush
import Derived.Maps.AppendAt
set_option linter.unusedVariables false
set_option linter.unusedSimpArgs false
namespace Go.Proofs.Ytedcpmkfanlicaa
open Go Go.RowKit Go.Sort Go.Lib Go.Maps Go.Deep
theorem info80 : (Try.prog.info? 80).map (fun i => (i.zero, i.size, i.bytes)) = some (some (.agg #[.int .i64 0, .string ⟨#[]⟩, .string ⟨#[]⟩]), 3, 40) := by kernel_rfl
def putO (lo : List Int) (k : Int) : List Int := if k ∈ lo then lo else lo ++ [k]
def writeR (r : Rf) (k : Int) (s : ByteArray) : Rf × Int :=
  if (countR r).2 then ((countR r).1, 11)
  else if k < 0 ∨ (countR r).1.n ≤ k ∨ s.size ≠ 512 then ((countR r).1, 1)
  else ({ (countR r).1 with L := writeL (countR r).1.L k s, lo := putO (countR r).1.lo k }, 0)
/-- append, as one step of a region that draws, by what it does -/
theorem step_append_run {P : Program} {ops : Array Oper} {o : Oper} {a : Act} {w : World} {K : Act → World → Prop} {Q : Exit → Act → World → Prop} {E : Prop}
    (hg : o.guard = none) (s x : Operand) (t : TypeId) (hop : o.op = Op.call { callee := Callee.builtin Builtin.append, args := #[s, x], argTypes := #[t, t] })
    (v1 v2 : Value) (hs : a.eval s = v1) (hx : a.eval x = v2) {v' : Value} {w' : World} (hrun : (Builtin.append_ #[t, t] o.type #[v1, v2]).run P w = .ok v' w') (hK : K (a.put o.dst v') w') :
    if Region.wanted o (yielded ops a.tmps) = true then Oper.wp P o a w K Q else E := by
  have hw : Region.wanted o (yielded ops a.tmps) = true := by simp [Region.wanted, hg]
  rw [if_pos hw]
  unfold Oper.wp
  simp [execOp, hop, resolve, invoke, builtin, hs, hx, hrun, Result.andThen]
  exact hK
section
variable {w : World} {R : Rl} {r : Rf}
theorem writeL_some {L : List Rb} {k : Int} {s : ByteArray} {j : Nat} (h : atR L k = some j) : writeL L k s = L.set j ⟨(L[j]?.getD default).k, (L[j]?.getD default).fl, s⟩ := by unfold writeL; rw [h]
theorem writeL_none {L : List Rb} {k : Int} {s : ByteArray} (h : atR L k = none) : writeL L k s = (L ++ [(⟨k, noughtS, ⟨#[]⟩⟩ : Rb)]).set L.length ⟨k, noughtS, s⟩ := by
  unfold writeL
  rw [h, List.set_append_right _ _ (Nat.le_refl _), Nat.sub_self]
  rfl
/-- one entry more -/
theorem more_ref {w1 w3 w4 : World} {R1 : Rl} {r1 : Rf} {v' : Value} {b : Rb} (H : RfIs w1 R1 r1) (X : Chg (fun _ => False) w1 w3) (hown : w4.ownsRow 0 80 3 v' (r1.L.length + 1) (flat rbCells r1.L ++ rbCells b))
    (hgr : (w3.alloc (.cells (rbCells b).toArray 80)).grownBy w4 R1.vL.ownBlock) (hb : v'.ownBlock = R1.vL.ownBlock ∨ v'.ownBlock = some (w3.alloc (.cells (rbCells b).toArray 80)).heap.size) :
    w4.cell? ⟨R1.p, 1, none⟩ = some R1.vL ∧ w4.frozen? ⟨R1.p, 1, none⟩ = false ∧ RfIs (w4.setCell ⟨R1.p, 1, none⟩ v') ⟨R1.p, v', R1.vO⟩ { r1 with L := r1.L ++ [b] } ∧ Goes w1 (w4.setCell ⟨R1.p, 1, none⟩ v') R1 ⟨R1.p, v', R1.vO⟩ := by
  have X4 : Chg (fun i => R1.vL.ownBlock = some i) w1 w4 := ((X.mono (T := fun i => R1.vL.ownBlock = some i) (fun _ _ h => h.elim)).trans (chg_alloc w3 _ _) (fun _ _ h => h)).trans hgr.chg (fun i hi h => h)
  have b4 : w4.heap[R1.p]? = some (.cells (rfCells r1 R1.vL R1.vO) 76 (0, 0)) := by
    rw [X4.block R1.p (blk_lt H.blk) H.apL]
    exact H.blk
  have X5 := chg_setCell w4 ⟨R1.p, 1, none⟩ v'
  have ap4 : v'.ownBlock ≠ some R1.p := by
    rcases owns_apart_block hown b4 (by decide) with e | e
    · rw [e]; simp
    · exact e
  refine ⟨(cell_of_blk b4 (j := 1) rfl).1, (cell_of_blk b4 (j := 1) rfl).2, ⟨heap_setCell_same w4 R1.p 1 _ 76 _ b4, ?_, ?_⟩, rfl, ?_, ?_⟩
  · have o := X5.owns hown (fun i hi (e : i = R1.p) => ap4 (by rw [← e]; exact hi))
    show World.ownsRow _ 0 80 3 _ (r1.L ++ [b]).length (flat rbCells (r1.L ++ [b]))
    rw [List.length_append, flat_append]
    simpa [flat] using o
  · exact X5.owns (X4.owns H.ownO (fun i hi e => H.apLO i e hi)) (fun i hi (e : i = R1.p) => H.apO (by rw [← e]; exact hi))
  · exact (X4.mono (fun i hi e => Or.inr (.inl e))).trans X5 (fun i hi (e : i = R1.p) => .inl e)
  · rintro i (h | h | h)
    · exact .inl (.inl h)
    · rcases hb with e | e
      · exact .inl (.inr (.inl (e ▸ h)))
      · have h' : v'.ownBlock = some i := h
        rw [e] at h'
        cases h'
        have := X.size
        exact .inr (by simp only [World.size_alloc]; omega)
    · exact .inl (.inr (.inr h))
set_option maxHeartbeats 2000000 in
set_option maxRecDepth 100000 in
theorem writeR_any (H : RfIs w R r) (F : Fit r) (k : Int) (s : ByteArray) (hL : (countR r).1.L.length ≤ 1000) (hO : (countR r).1.lo.length ≤ 1000) : Calls Try.prog 39 #[.pointer (some ⟨R.p, 0, none⟩), .int .i64 k, .string s] w fun e w' => e = .returned (.int .i64 (writeR r k s).2) ∧ ∃ R', RfIs w' R' (writeR r k s).1 ∧ Goes w w' R R' := by
  have mixed := Try.mixed
  have q := fallsR_any H F
  have HH0 := Lib.hid H
  clear H
  cases hc : (countR r).2 with
  | true =>
    have E : Hid (writeR r k s = ((countR r).1, 11)) := by show _ = _; unfold writeR; rw [if_pos hc]
    rw [hc] at q
    have q := Lib.hid q
    clear hc
    go_enter Try.func39, Try.ntmps39
    go_wp2_with fail
    refine q.out.mono ?_
    rintro e w1 ⟨rfl, R', H, G⟩
    have H := Lib.hid H
    have G := Lib.hid G
    go_wp2
    go_ret
    rw [E.out]
    exact ⟨rfl, R', H.out, G.out⟩
  | false =>
    have E : Hid (writeR r k s = if k < 0 ∨ (countR r).1.n ≤ k ∨ s.size ≠ 512 then ((countR r).1, 1) else ({ (countR r).1 with L := writeL (countR r).1.L k s, lo := putO (countR r).1.lo k }, 0)) := by show _ = _; unfold writeR; rw [if_neg (by rw [hc]; simp)]
    rw [hc] at q
    have q := Lib.hid q
    clear hc
    generalize (countR r).1 = r1 at q E hL hO
    have HLO := Lib.hid hO
    have HLL := Lib.hid hL
    clear hL hO
    go_enter Try.func39, Try.ntmps39
    go_wp2_with fail
    refine q.out.mono ?_
    rintro e w1 ⟨rfl, R1, H, G⟩
    have H := Lib.hid H
    have G := Lib.hid G
    have ep : R.p = R1.p := G.out.p.symm
    rw [ep]
    clear q ep
    have c0 : w1.cell? ⟨R1.p, 0, none⟩ = some (.int .i64 r1.n) := (H.out.cell (j := 0) rfl).1
    by_cases hk0 : k < 0
    · have E1 : Hid (writeR r k s = (r1, 1)) := by show _ = _; rw [E.out, if_pos (.inl hk0)]
      go_wp2
      go_ret
      rw [E1.out]
      exact ⟨rfl, R1, H.out, G.out⟩
    · by_cases hkn : r1.n ≤ k
      · have E1 : Hid (writeR r k s = (r1, 1)) := by show _ = _; rw [E.out, if_pos (.inr (.inl hkn))]
        go_wp2
        go_ret
        rw [E1.out]
        exact ⟨rfl, R1, H.out, G.out⟩
      · by_cases hs : s.size = 512
        · have E1 : Hid (writeR r k s = ({ r1 with L := writeL r1.L k s, lo := putO r1.lo k }, 0)) := by show _ = _; rw [E.out, if_neg (by rintro (h | h | h); exact hk0 h; exact hkn h; exact h hs)]
          clear E
          have q := Lib.hid (atR_any H.out k)
          go_wp2_with fail
          refine q.out.mono ?_
          rintro e w2 ⟨rfl, hw⟩
          have hw := hw.symm
          subst hw
          clear q hk0 hkn c0
          go_upto_if 32 with fail
          go_cut [8] (fun s8 wx => ∃ (R2 : Rl) (L2 : List Rb) (i : Nat), s8 = .int .i64 i ∧ i < 2000 ∧ Aside (RfIs wx R2 { r1 with L := L2 }) ∧ Aside (Goes w1 wx R1 R2) ∧ Aside (i < L2.length ∧ writeL r1.L k s = L2.set i ⟨(L2[i]?.getD default).k, (L2[i]?.getD default).fl, s⟩))
          case first =>
            cases hat : atR r1.L k with
            | some j =>
              have e : atV r1.L k = (j : Int) := by unfold atV; rw [hat]
              have W := Lib.hid (writeL_some (s := s) hat)
              obtain ⟨hj, _⟩ := atR_lt hat
              have z : ¬ (j : Int) < 0 := by omega
              rw [e]
              have hj2 : j < 2000 := by have := HLL.out; omega
              have HJ := Lib.hid hj
              clear hat e
              go_wp2_with fail
              go_meet
              exact ⟨R1, r1.L, j, rfl, hj2, H.out, Goes.refl _ _, HJ.out, W.out⟩
            | none =>
              have e : atV r1.L k = -1 := by unfold atV; rw [hat]
              have W := Lib.hid (writeL_none (s := s) hat)
              rw [e]
              clear hat e
              obtain ⟨a, c, hv⟩ := owns_len H.out.ownL
              obtain ⟨m, hm⟩ : ∃ m, m = r1.L.length := ⟨_, rfl⟩
              rw [← hm] at hv
              have EL := Lib.hid hv
              have HM := Lib.hid hm.symm
              have hm1 : m ≤ 1000 := by have := HLL.out; omega
              have c1 : w1.cell? ⟨R1.p, 1, none⟩ = some (.slice a m c) := by have := (H.out.cell (j := 1) rfl).1; rw [EL.out] at this; exact this
              have oL : Hid (w1.ownsRow 0 80 3 (.slice a m c) m (flat rbCells r1.L)) := by have := H.out.ownL; rw [EL.out, HM.out] at this; exact this
              have LAST : Hid (m < (r1.L ++ [(⟨k, noughtS, ⟨#[]⟩⟩ : Rb)]).length ∧ writeL r1.L k s = (r1.L ++ [(⟨k, noughtS, ⟨#[]⟩⟩ : Rb)]).set m ⟨((r1.L ++ [(⟨k, noughtS, ⟨#[]⟩⟩ : Rb)])[m]?.getD default).k, ((r1.L ++ [(⟨k, noughtS, ⟨#[]⟩⟩ : Rb)])[m]?.getD default).fl, s⟩) := by
                refine ⟨by rw [List.length_append, HM.out]; simp, ?_⟩
                rw [W.out, ← HM.out]
                simp
              have APP : Hid (∀ w3, Chg (fun _ => False) w1 w3 → ∃ v' w4, (Builtin.append_ #[74, 74] 74 #[.slice a m c, .slice (some ⟨w3.heap.size, 0, none⟩) 1 1]).run Try.prog (w3.alloc (.cells #[.int .i64 k, .string (strB zeroBlk), .string ⟨#[]⟩] 80)) = .ok v' w4 ∧
                  w4.ownsRow 0 80 3 v' (r1.L.length + 1) (flat rbCells r1.L ++ rbCells ⟨k, noughtS, ⟨#[]⟩⟩) ∧ (w3.alloc (.cells (rbCells ⟨k, noughtS, ⟨#[]⟩⟩).toArray 80)).grownBy w4 R1.vL.ownBlock ∧ (v'.ownBlock = R1.vL.ownBlock ∨ v'.ownBlock = some (w3.alloc (.cells (rbCells ⟨k, noughtS, ⟨#[]⟩⟩).toArray 80)).heap.size)) := fun w3 X => by
                obtain ⟨i0, hi, hz0, hz1, hz2⟩ := info_parts info80
                have o3 := (X.owns oL.out (fun _ _ h => h)).alloc (.cells (rbCells ⟨k, noughtS, ⟨#[]⟩⟩).toArray 80)
                obtain ⟨v', w4, h1, h2, h3, _, h5⟩ := run_append_own_at (P := Try.prog) _ 0 74 74 80 i0 (.agg #[.int .i64 0, .string ⟨#[]⟩, .string ⟨#[]⟩]) 3 40 Try.underlying74 hi hz0 hz1 hz2 rfl (by decide) (.slice a m c) m (flat rbCells r1.L) o3 ⟨w3.heap.size, 0, none⟩ 1 1 (rbCells ⟨k, noughtS, ⟨#[]⟩⟩) rfl
                  (fun j u hj => by rw [Addr.add_lit]; exact cellsAt_new w3 (rbCells ⟨k, noughtS, ⟨#[]⟩⟩) 80 j u hj) (rbCells_one _) (by unfold maxLen; omega) (by omega) (by omega)
                refine ⟨v', w4, h1, by rw [HM.out]; exact h2, by rw [EL.out]; exact h3, by rw [EL.out]; exact h5⟩
              clear hv hm
              go_upto_region 9 with fail
              refine wp_region_held_drew (S := fun _ => True) (by kernel_rfl) trivial (fun _ => ?_)
              refine wpAnyH_take (i := 0) (oi := _) (v := ?vw1) rfl (by kernel_rfl) (by kernel_rfl) (by kernel_rfl) (fun _ _ _ h => h) (Or.inl ⟨by rfl, ?yw1⟩) trivial ?rw1
              case yw1 => (intro w hSw; go_simp; try with_reducible rfl)
              (try simp only [List.getElem_toArray, List.getElem_cons_succ, List.getElem_cons_zero, Act.put, List.setIfInBounds_toArray, List.set_cons_zero, List.set_cons_succ])
              refine wpAnyH_take (i := 1) (oi := _) (v := ?vw2) rfl (by kernel_rfl) (by kernel_rfl) (by kernel_rfl) (fun _ _ _ h => h) (Or.inl ⟨by rfl, ?yw2⟩) trivial ?rw2
              case yw2 => (intro w hSw; go_simp; try with_reducible rfl)
              (try simp only [List.getElem_toArray, List.getElem_cons_succ, List.getElem_cons_zero, Act.put, List.setIfInBounds_toArray, List.set_cons_zero, List.set_cons_succ])
              refine wpAnyH_take (i := 2) (oi := _) (v := ?vw3) rfl (by kernel_rfl) (by kernel_rfl) (by kernel_rfl) (fun _ _ _ h => h) (Or.inl ⟨by rfl, ?yw3⟩) trivial ?rw3
              case yw3 => (intro w hSw; go_simp; try with_reducible rfl)
              (try simp only [List.getElem_toArray, List.getElem_cons_succ, List.getElem_cons_zero, Act.put, List.setIfInBounds_toArray, List.set_cons_zero, List.set_cons_succ])
              refine wpAnyH_take (i := 3) (oi := _) (v := ?vw4) rfl (by kernel_rfl) (by kernel_rfl) (by kernel_rfl) (fun _ _ _ h => h) (Or.inl ⟨by rfl, ?yw4⟩) trivial ?rw4
              case yw4 => (intro w hSw; go_simp; try with_reducible rfl)
              (try simp only [List.getElem_toArray, List.getElem_cons_succ, List.getElem_cons_zero, Act.put, List.setIfInBounds_toArray, List.set_cons_zero, List.set_cons_succ])
              refine wpAnyH_take (i := 5) (oi := _) (v := ?vw5) rfl (by kernel_rfl) (by kernel_rfl) (by kernel_rfl) (fun _ _ _ h => h) (Or.inl ⟨by rfl, ?yw5⟩) trivial ?rw5
              case yw5 => (intro w hSw; go_simp; try with_reducible rfl)
              (try simp only [List.getElem_toArray, List.getElem_cons_succ, List.getElem_cons_zero, Act.put, List.setIfInBounds_toArray, List.set_cons_zero, List.set_cons_succ])
              refine wpAnyH_ready (rs := [4, 6]) (by kernel_rfl) (by simp) ?_
              refine AllReadyH.cons (o := _) rfl (fun K hK => ?_) (AllReadyH.cons (o := _) rfl (fun K hK => ?_) AllReadyH.nil)
              · (try simp only [List.getElem_toArray, List.getElem_cons_succ, List.getElem_cons_zero])
                go_simp
                refine hK.out _ _ trivial (fun _ => ?_)
                clear hK K
                (try simp only [List.getElem_toArray, List.getElem_cons_succ, List.getElem_cons_zero, Act.put, List.setIfInBounds_toArray, List.set_cons_zero, List.set_cons_succ])
                refine wpAnyH_ready (rs := [6]) (by kernel_rfl) (by simp) ?_
                refine AllReadyH.cons (o := _) rfl (fun K hK => ?_) AllReadyH.nil
                (try simp only [List.getElem_toArray, List.getElem_cons_succ, List.getElem_cons_zero])
                go_simp
                refine (noughts_any _).mono ?_
                rintro e w3 ⟨rfl, X⟩
                have X : Chg (fun _ => False) w1 w3 := ((Ext.refl w1).drew.chg _).trans X (fun _ _ h => h)
                have c1' := X.cell c1 id
                have c1a : (w3.alloc (.cells #[.int .i64 k, .string (strB zeroBlk), .string ⟨#[]⟩] 80)).cell? ⟨R1.p, 1, none⟩ = some (.slice a m c) := ((Ext.refl w3).alloc _).cell c1'
                obtain ⟨v', w4, ha, ho, hgr, hb⟩ := APP.out w3 X
                obtain ⟨d1, g1, H5, G5⟩ := more_ref H.out X ho hgr hb
                rw [EL.out] at d1
                have H5 := Lib.hid H5
                have G5 := Lib.hid G5
                obtain ⟨a', c', hv'⟩ := owns_len ho
                subst hv'
                have HA := Lib.hid ha
                clear ho hgr hb X ha
                refine hK.out _ _ trivial (fun _ => ?_)
                clear hK K
                (try simp only [List.getElem_toArray, List.getElem_cons_succ, List.getElem_cons_zero, Act.put, List.setIfInBounds_toArray, List.set_cons_zero, List.set_cons_succ])
                refine wpAnyH_take (i := 7) (oi := _) (v := ?vw006) rfl (by kernel_rfl) (by kernel_rfl) (by kernel_rfl) (fun _ _ _ h => h) (Or.inl ⟨by rfl, ?yw006⟩) trivial ?rw006
                case yw006 => (intro w hSw; go_simp; try with_reducible rfl)
                (try simp only [List.getElem_toArray, List.getElem_cons_succ, List.getElem_cons_zero, Act.put, List.setIfInBounds_toArray, List.set_cons_zero, List.set_cons_succ])
                refine wpAnyH_ready (rs := [8]) (by kernel_rfl) (by simp) ?_
                refine AllReadyH.cons (o := _) rfl (fun K hK => ?_) AllReadyH.nil
                (try simp only [List.getElem_toArray, List.getElem_cons_succ, List.getElem_cons_zero])
                go_simp
                refine hK.out _ _ trivial (fun _ => ?_)
                clear hK K
                (try simp only [List.getElem_toArray, List.getElem_cons_succ, List.getElem_cons_zero, Act.put, List.setIfInBounds_toArray, List.set_cons_zero, List.set_cons_succ])
                refine wpAnyH_ready (rs := [9]) (by kernel_rfl) (by simp) ?_
                refine AllReadyH.cons (o := _) rfl (fun K hK => ?_) AllReadyH.nil
                refine step_append_run (by rfl) _ _ 74 (by rfl) (.slice a m c) (.slice (some ⟨w3.heap.size, 0, none⟩) 1 1) (by rfl) (by rfl) HA.out (hK.out _ _ trivial (fun _ => ?_))
                clear hK K
                (try simp only [List.getElem_toArray, List.getElem_cons_succ, List.getElem_cons_zero, Act.put, List.setIfInBounds_toArray, List.set_cons_zero, List.set_cons_succ])
                refine wpAnyH_take (i := 10) (oi := _) (v := ?vw00007) rfl (by kernel_rfl) (by kernel_rfl) (by kernel_rfl) (fun _ _ _ h => h) (Or.inl ⟨by rfl, ?yw00007⟩) trivial ?rw00007
                case yw00007 => (intro w hSw; go_simp; try with_reducible rfl)
                (try simp only [List.getElem_toArray, List.getElem_cons_succ, List.getElem_cons_zero, Act.put, List.setIfInBounds_toArray, List.set_cons_zero, List.set_cons_succ])
                refine wpAnyH_take (i := 11) (oi := _) (v := ?vw00008) rfl (by kernel_rfl) (by kernel_rfl) (by kernel_rfl) (fun _ _ _ h => h) (Or.inl ⟨by rfl, ?yw00008⟩) trivial ?rw00008
                case yw00008 => (intro w hSw; go_simp; try with_reducible rfl)
                (try simp only [List.getElem_toArray, List.getElem_cons_succ, List.getElem_cons_zero, Act.put, List.setIfInBounds_toArray, List.set_cons_zero, List.set_cons_succ])
                refine wpAnyH_ready (rs := [12]) (by kernel_rfl) (by simp) ?_
                refine AllReadyH.cons (o := _) rfl (fun K hK => ?_) AllReadyH.nil
                (try simp only [List.getElem_toArray, List.getElem_cons_succ, List.getElem_cons_zero])
                go_simp
                refine hK.out _ _ trivial (fun _ => ?_)
                clear hK K
                (try simp only [List.getElem_toArray, List.getElem_cons_succ, List.getElem_cons_zero, Act.put, List.setIfInBounds_toArray, List.set_cons_zero, List.set_cons_succ])
                refine wpAnyH_done (by kernel_rfl) ?_ _
                go_wp2
                go_meet
                exact ⟨⟨R1.p, .slice a' (r1.L.length + 1) c', R1.vO⟩, _, m, rfl, by omega, H5.out, G5.out, LAST.out⟩
              · (try simp only [List.getElem_toArray, List.getElem_cons_succ, List.getElem_cons_zero])
                go_simp
                refine (noughts_any _).mono ?_
                rintro e w3 ⟨rfl, X⟩
                have X : Chg (fun _ => False) w1 w3 := ((Ext.refl w1).drew.chg _).trans X (fun _ _ h => h)
                have c1' := X.cell c1 id
                have c1a : (w3.alloc (.cells #[.int .i64 k, .string (strB zeroBlk), .string ⟨#[]⟩] 80)).cell? ⟨R1.p, 1, none⟩ = some (.slice a m c) := ((Ext.refl w3).alloc _).cell c1'
                obtain ⟨v', w4, ha, ho, hgr, hb⟩ := APP.out w3 X
                obtain ⟨d1, g1, H5, G5⟩ := more_ref H.out X ho hgr hb
                rw [EL.out] at d1
                have H5 := Lib.hid H5
                have G5 := Lib.hid G5
                obtain ⟨a', c', hv'⟩ := owns_len ho
                subst hv'
                have HA := Lib.hid ha
                clear ho hgr hb X ha
                refine hK.out _ _ trivial (fun _ => ?_)
                clear hK K
                (try simp only [List.getElem_toArray, List.getElem_cons_succ, List.getElem_cons_zero, Act.put, List.setIfInBounds_toArray, List.set_cons_zero, List.set_cons_succ])
                refine wpAnyH_take (i := 7) (oi := _) (v := ?vw19) rfl (by kernel_rfl) (by kernel_rfl) (by kernel_rfl) (fun _ _ _ h => h) (Or.inl ⟨by rfl, ?yw19⟩) trivial ?rw19
                case yw19 => (intro w hSw; go_simp; try with_reducible rfl)
                (try simp only [List.getElem_toArray, List.getElem_cons_succ, List.getElem_cons_zero, Act.put, List.setIfInBounds_toArray, List.set_cons_zero, List.set_cons_succ])
                refine wpAnyH_ready (rs := [4, 8]) (by kernel_rfl) (by simp) ?_
                refine AllReadyH.cons (o := _) rfl (fun K hK => ?_) (AllReadyH.cons (o := _) rfl (fun K hK => ?_) AllReadyH.nil)
                · (try simp only [List.getElem_toArray, List.getElem_cons_succ, List.getElem_cons_zero])
                  go_simp
                  refine hK.out _ _ trivial (fun _ => ?_)
                  clear hK K
                  (try simp only [List.getElem_toArray, List.getElem_cons_succ, List.getElem_cons_zero, Act.put, List.setIfInBounds_toArray, List.set_cons_zero, List.set_cons_succ])
                  refine wpAnyH_ready (rs := [8]) (by kernel_rfl) (by simp) ?_
                  refine AllReadyH.cons (o := _) rfl (fun K hK => ?_) AllReadyH.nil
                  (try simp only [List.getElem_toArray, List.getElem_cons_succ, List.getElem_cons_zero])
                  go_simp
                  refine hK.out _ _ trivial (fun _ => ?_)
                  clear hK K
                  (try simp only [List.getElem_toArray, List.getElem_cons_succ, List.getElem_cons_zero, Act.put, List.setIfInBounds_toArray, List.set_cons_zero, List.set_cons_succ])
                  refine wpAnyH_ready (rs := [9]) (by kernel_rfl) (by simp) ?_
                  refine AllReadyH.cons (o := _) rfl (fun K hK => ?_) AllReadyH.nil
                  refine step_append_run (by rfl) _ _ 74 (by rfl) (.slice a m c) (.slice (some ⟨w3.heap.size, 0, none⟩) 1 1) (by rfl) (by rfl) HA.out (hK.out _ _ trivial (fun _ => ?_))
                  clear hK K
                  (try simp only [List.getElem_toArray, List.getElem_cons_succ, List.getElem_cons_zero, Act.put, List.setIfInBounds_toArray, List.set_cons_zero, List.set_cons_succ])
                  refine wpAnyH_take (i := 10) (oi := _) (v := ?vw100010) rfl (by kernel_rfl) (by kernel_rfl) (by kernel_rfl) (fun _ _ _ h => h) (Or.inl ⟨by rfl, ?yw100010⟩) trivial ?rw100010
                  case yw100010 => (intro w hSw; go_simp; try with_reducible rfl)
                  (try simp only [List.getElem_toArray, List.getElem_cons_succ, List.getElem_cons_zero, Act.put, List.setIfInBounds_toArray, List.set_cons_zero, List.set_cons_succ])
                  refine wpAnyH_take (i := 11) (oi := _) (v := ?vw100011) rfl (by kernel_rfl) (by kernel_rfl) (by kernel_rfl) (fun _ _ _ h => h) (Or.inl ⟨by rfl, ?yw100011⟩) trivial ?rw100011
                  case yw100011 => (intro w hSw; go_simp; try with_reducible rfl)
                  (try simp only [List.getElem_toArray, List.getElem_cons_succ, List.getElem_cons_zero, Act.put, List.setIfInBounds_toArray, List.set_cons_zero, List.set_cons_succ])
                  refine wpAnyH_ready (rs := [12]) (by kernel_rfl) (by simp) ?_
                  refine AllReadyH.cons (o := _) rfl (fun K hK => ?_) AllReadyH.nil
                  (try simp only [List.getElem_toArray, List.getElem_cons_succ, List.getElem_cons_zero])
                  go_simp
                  refine hK.out _ _ trivial (fun _ => ?_)
                  clear hK K
                  (try simp only [List.getElem_toArray, List.getElem_cons_succ, List.getElem_cons_zero, Act.put, List.setIfInBounds_toArray, List.set_cons_zero, List.set_cons_succ])
                  refine wpAnyH_done (by kernel_rfl) ?_ _
                  go_wp2
                  go_meet
                  exact ⟨⟨R1.p, .slice a' (r1.L.length + 1) c', R1.vO⟩, _, m, rfl, by omega, H5.out, G5.out, LAST.out⟩
                · (try simp only [List.getElem_toArray, List.getElem_cons_succ, List.getElem_cons_zero])
                  go_simp
                  refine hK.out _ _ trivial (fun _ => ?_)
                  clear hK K
                  (try simp only [List.getElem_toArray, List.getElem_cons_succ, List.getElem_cons_zero, Act.put, List.setIfInBounds_toArray, List.set_cons_zero, List.set_cons_succ])
                  refine wpAnyH_ready (rs := [4]) (by kernel_rfl) (by simp) ?_
                  refine AllReadyH.cons (o := _) rfl (fun K hK => ?_) AllReadyH.nil
                  (try simp only [List.getElem_toArray, List.getElem_cons_succ, List.getElem_cons_zero])
                  go_simp
                  refine hK.out _ _ trivial (fun _ => ?_)
                  clear hK K
                  (try simp only [List.getElem_toArray, List.getElem_cons_succ, List.getElem_cons_zero, Act.put, List.setIfInBounds_toArray, List.set_cons_zero, List.set_cons_succ])
                  refine wpAnyH_ready (rs := [9]) (by kernel_rfl) (by simp) ?_
                  refine AllReadyH.cons (o := _) rfl (fun K hK => ?_) AllReadyH.nil
                  refine step_append_run (by rfl) _ _ 74 (by rfl) (.slice a m c) (.slice (some ⟨w3.heap.size, 0, none⟩) 1 1) (by rfl) (by rfl) HA.out (hK.out _ _ trivial (fun _ => ?_))
                  clear hK K
                  (try simp only [List.getElem_toArray, List.getElem_cons_succ, List.getElem_cons_zero, Act.put, List.setIfInBounds_toArray, List.set_cons_zero, List.set_cons_succ])
                  refine wpAnyH_take (i := 10) (oi := _) (v := ?vw110012) rfl (by kernel_rfl) (by kernel_rfl) (by kernel_rfl) (fun _ _ _ h => h) (Or.inl ⟨by rfl, ?yw110012⟩) trivial ?rw110012
                  case yw110012 => (intro w hSw; go_simp; try with_reducible rfl)
                  (try simp only [List.getElem_toArray, List.getElem_cons_succ, List.getElem_cons_zero, Act.put, List.setIfInBounds_toArray, List.set_cons_zero, List.set_cons_succ])
                  refine wpAnyH_take (i := 11) (oi := _) (v := ?vw110013) rfl (by kernel_rfl) (by kernel_rfl) (by kernel_rfl) (fun _ _ _ h => h) (Or.inl ⟨by rfl, ?yw110013⟩) trivial ?rw110013
                  case yw110013 => (intro w hSw; go_simp; try with_reducible rfl)
                  (try simp only [List.getElem_toArray, List.getElem_cons_succ, List.getElem_cons_zero, Act.put, List.setIfInBounds_toArray, List.set_cons_zero, List.set_cons_succ])
                  refine wpAnyH_ready (rs := [12]) (by kernel_rfl) (by simp) ?_
                  refine AllReadyH.cons (o := _) rfl (fun K hK => ?_) AllReadyH.nil
                  (try simp only [List.getElem_toArray, List.getElem_cons_succ, List.getElem_cons_zero])
                  go_simp
                  refine hK.out _ _ trivial (fun _ => ?_)
                  clear hK K
                  (try simp only [List.getElem_toArray, List.getElem_cons_succ, List.getElem_cons_zero, Act.put, List.setIfInBounds_toArray, List.set_cons_zero, List.set_cons_succ])
                  refine wpAnyH_done (by kernel_rfl) ?_ _
                  go_wp2
                  go_meet
                  exact ⟨⟨R1.p, .slice a' (r1.L.length + 1) c', R1.vO⟩, _, m, rfl, by omega, H5.out, G5.out, LAST.out⟩
          case rest =>
            obtain ⟨R2, L2, i, rfl, hi, H2, G2, I⟩ := hcut
            have H2 : Hid (RfIs wc R2 { r1 with L := L2 }) := H2
            have G2 : Hid (Goes w1 wc R1 R2) := G2
            have ep : R1.p = R2.p := G2.out.p.symm
            rw [ep]
            clear ep
            obtain ⟨a, c, hv⟩ := owns_len H2.out.ownL
            obtain ⟨m, hm⟩ : ∃ m, m = L2.length := ⟨_, rfl⟩
            have EL : Hid (R2.vL = .slice a m c) := by show _ = _; rw [hv, hm]
            have c1 : wc.cell? ⟨R2.p, 1, none⟩ = some (.slice a m c) := by have := (H2.out.cell (j := 1) rfl).1; rw [EL.out] at this; exact this
            have oL : wc.ownsRow 0 80 3 (.slice a m c) L2.length (flat rbCells L2) := by have := H2.out.ownL; rw [EL.out] at this; exact this
            obtain ⟨g, rfl, x0, x1, x2, fz⟩ := ownL_get oL i I.out.1
            have f2 := fz (i * 3 + 2)
            have hi1 : i < m := by rw [hm]; exact I.out.1
            have lm : L2.length = m := hm.symm
            rw [lm] at oL
            have OL := Lib.hid oL
            have RG : Hid (RFt R2 g) := .inr (.inl (by rw [EL.out]; rfl))
            have n1 : g ≠ R2.p := fun e => H2.out.apL (by rw [EL.out, ← e]; rfl)
            have HX : Hid (L2[i]?.getD default = L2[i]'I.out.1) := getD_lt I.out.1
            have LM := Lib.hid lm
            clear hm hv oL lm fz
            have zi0 : (0 : Int) ≤ (i : Int) := by omega
            have zi1 : (i : Int) < (m : Int) := by omega
            go_upto_region 11 with fail
            obtain ⟨w3, h3⟩ : ∃ W, W = wc.setCell ⟨g, i * 3 + 2, none⟩ (.string s) := ⟨_, rfl⟩
            rw [← h3]
            have XW : Chg (fun i => i = g) wc w3 := by rw [h3]; exact chg_setCell wc ⟨g, i * 3 + 2, none⟩ _
            have H3 : Hid (RfIs w3 R2 { r1 with L := writeL r1.L k s }) := by
              refine ⟨?_, ?_, XW.owns H2.out.ownO (fun i hi e => H2.out.apLO g (by rw [EL.out]; rfl) (e ▸ hi))⟩
              · rw [XW.block R2.p (blk_lt H2.out.blk) (fun e => n1 e.symm)]
                exact H2.out.blk
              · have o1 := (OL.out.stored (i * 3 + 2) (.string s)).1
                rw [flat_set2 L2 i I.out.1 s, ← h3] at o1
                rw [EL.out]
                show World.ownsRow _ 0 80 3 _ (writeL r1.L k s).length (flat rbCells (writeL r1.L k s))
                rw [I.out.2, HX.out, List.length_set]
                have key : ∀ n, n = m → w3.ownsRow 0 80 3 (.slice (some ⟨g, 0, none⟩) m c) n (flat rbCells (L2.set i ⟨(L2[i]'I.out.1).k, (L2[i]'I.out.1).fl, s⟩)) := fun n hn => by rw [hn]; exact o1
                exact key _ LM.out
            have G3 : Hid (Goes w1 w3 R1 R2) := ⟨G2.out.p, G2.out.chg.trans XW (fun i hi e => by
              rcases G2.out.foot i (e ▸ RG.out) with h | h
              · exact h
              · exact absurd hi (by omega)), G2.out.foot⟩
            clear h3 XW x0 x1 x2 f2 c1 RG n1
            obtain ⟨oa, oc, hv⟩ := owns_len H3.out.ownO
            obtain ⟨q, hq⟩ : ∃ q, q = r1.lo.length := ⟨_, rfl⟩
            have EO : Hid (R2.vO = .slice oa q oc) := by show _ = _; rw [hv, hq]
            have c2 : w3.cell? ⟨R2.p, 2, none⟩ = some (.slice oa q oc) := by have := (H3.out.cell (j := 2) rfl).1; rw [EO.out] at this; exact this
            have f2 : w3.frozen? ⟨R2.p, 2, none⟩ = false := (H3.out.cell (j := 2) rfl).2
            have oO : Hid (w3.ownsRow 0 3 1 (.slice oa q oc) r1.lo.length (r1.lo.map zV)) := by have := H3.out.ownO; rw [EO.out] at this; exact this
            have hq1 : q ≤ 1000 := by have := HLO.out; omega
            have HQ := Lib.hid hq.symm
            clear hq hv
            have GO := Lib.hid (fun t ht => ownO_get oO.out t ht)
            go_wp2
            go_loopg [9] q (fun kx s9 wr => ∃ t : Nat, s9 = .int .i64 t ∧ t ≤ q ∧ q - t ≤ kx ∧ Aside (∀ i (hi : i < r1.lo.length), i < t → r1.lo[i] ≠ k) ∧ w3 = wr)
            case atStart => exact ⟨0, rfl, Nat.zero_le _, by omega, fun i hi h => by omega, rfl⟩
            case round =>
              obtain ⟨t, rfl, htq, hg, B, rfl⟩ := hrel
              have z0 : (0 : Int) ≤ (t : Int) := by omega
              by_cases hlt : t < q
              · have z1 : (t : Int) < (q : Int) := by omega
                have htl : t < r1.lo.length := by rw [HQ.out]; exact hlt
                obtain ⟨og, rfl, k0⟩ := GO.out t htl
                generalize hy : r1.lo[t] = y at k0
                by_cases hyk : y = k
                · have PO : Hid (putO r1.lo k = r1.lo) := if_pos (by rw [← hyk, ← hy]; exact List.getElem_mem htl)
                  subst hyk
                  clear hy
                  go_wp2
                  go_ret
                  rw [E1.out, PO.out]
                  exact ⟨rfl, R2, H3.out, Goes.trans HH0.out G.out G3.out⟩
                · have hyk' : (y == k) = false := by simpa using hyk
                  have B' : Hid (∀ i (hi : i < r1.lo.length), i < t + 1 → r1.lo[i] ≠ k) := fun i hi h => by
                    by_cases e : i = t
                    · subst e; rw [hy]; exact hyk
                    · exact B.out i hi (by omega)
                  clear hy
                  go_wp2
                  go_roundg (q - (t + 1))
                  case measure => omega
                  case rel => exact ⟨t + 1, by go_num, by omega, Nat.le_refl _, B'.out, rfl⟩
              · obtain rfl : t = q := by omega
                have z1 : ¬ (t : Int) < (t : Int) := by omega
                have PO : Hid (putO r1.lo k = r1.lo ++ [k]) := if_neg (fun hk => by
                  obtain ⟨i, hi, e⟩ := List.getElem_of_mem hk
                  exact B.out i hi (by rw [← HQ.out]; exact hi) e)
                obtain ⟨i0, hi, hz0, hz1, hz2⟩ := info_parts info3
                have OWN : Hid ((w3.alloc (.cells #[.int .i64 k] 3)).ownsRow 0 3 1 (.slice oa t oc) t (r1.lo.map zV)) := by
                  have := oO.out
                  rw [HQ.out] at this
                  exact this.alloc (.cells #[.int .i64 k] 3)
                have N2 : Hid (∀ j u, ([Value.int .i64 k] : List Value)[j]? = some u → (w3.alloc (.cells #[.int .i64 k] 3)).cell? ((⟨w3.heap.size, 0, none⟩ : Addr).add j) = some u) := fun j u hj => by
                  rw [Addr.add_lit]; exact cellsAt_new w3 [.int .i64 k] 3 j u hj
                have N3 : Hid (∀ u ∈ ([Value.int .i64 k] : List Value), u.oneCell' = true) := fun u hu => by
                  simp only [List.mem_cons, List.not_mem_nil, or_false] at hu
                  subst hu; rfl
                go_wp2_with (at_builtin; refine wpList_append_own2 rfl _ _ 44 rfl 0 3 i0 (.int .i64 0) 1 8 Try.underlying44 hi hz0 hz1 hz2 rfl (by decide) _ _ _ rfl OWN.out ⟨w3.heap.size, 0, none⟩ 1 1 [.int .i64 k] rfl rfl N2.out N3.out (by decide) ?c1 ?c2 ?c3 ?_)
                case c1 => unfold maxLen; omega
                case c2 => omega
                intro v' w4 hown hgr hblk
                have X4 : Chg (fun i => (Value.slice oa t oc).ownBlock = some i) w3 w4 := (chg_alloc w3 _ _).trans hgr.chg (fun i hi h => h)
                have b4 : w4.heap[R2.p]? = some (.cells (rfCells { r1 with L := writeL r1.L k s } R2.vL R2.vO) 76 (0, 0)) := by
                  rw [X4.block R2.p (blk_lt H3.out.blk) (fun e => H3.out.apO (by rw [EO.out]; exact e))]
                  exact H3.out.blk
                have d2 : w4.cell? ⟨R2.p, 2, none⟩ = some R2.vO := (cell_of_blk b4 (j := 2) rfl).1
                have g2 : w4.frozen? ⟨R2.p, 2, none⟩ = false := (cell_of_blk b4 (j := 2) rfl).2
                have oL4 : w4.ownsRow 0 80 3 R2.vL (writeL r1.L k s).length (flat rbCells (writeL r1.L k s)) := X4.owns H3.out.ownL (fun i hi e => H3.out.apLO i hi (by rw [EO.out]; exact e))
                have ap4 : v'.ownBlock ≠ some R2.p := by
                  rcases owns_apart_block hown b4 (by decide) with e | e
                  · rw [e]; simp
                  · exact e
                have apL4 := H3.out.apL
                have B4 := Lib.hid b4
                have X4 := Lib.hid X4
                have OL4 := Lib.hid oL4
                have HO := Lib.hid hown
                have HB := Lib.hid hblk
                have AP := Lib.hid ap4
                have APL := Lib.hid apL4
                obtain ⟨a', c', hv'⟩ := owns_len hown
                subst hv'
                clear b4 oL4 hown hgr hblk ap4 apL4 OWN N2 N3 hi hz0 hz1 hz2 c2 f2
                go_wp2
                go_ret
                rw [E1.out, PO.out]
                have X5 := chg_setCell w4 ⟨R2.p, 2, none⟩ (.slice a' (t + 1) c')
                refine ⟨rfl, ⟨R2.p, R2.vL, .slice a' (t + 1) c'⟩, ⟨heap_setCell_same w4 R2.p 2 _ 76 _ B4.out, ?_, ?_⟩, Goes.trans HH0.out G.out ⟨G3.out.p, ?_, ?_⟩⟩
                · exact X5.owns OL4.out (fun i hi (e : i = R2.p) => APL.out (by rw [← e]; exact hi))
                · have o := X5.owns HO.out (fun i hi (e : i = R2.p) => AP.out (by rw [← e]; exact hi))
                  show World.ownsRow _ 0 3 1 _ (r1.lo ++ [k]).length ((r1.lo ++ [k]).map zV)
                  rw [List.length_append, HQ.out, List.map_append]
                  exact o
                · have XX : Chg (RFt R2) w3 (w4.setCell ⟨R2.p, 2, none⟩ (.slice a' (t + 1) c')) := (X4.out.mono (fun i hi e => Or.inr (.inr (by rw [EO.out]; exact e)))).trans X5 (fun i hi (e : i = R2.p) => .inl e)
                  exact G3.out.chg.trans XX (fun i hi h => (G3.out.foot i h).elim id (fun h' => absurd hi (by omega)))
                · have sz := G3.out.chg.size
                  rintro i (h | h | h)
                  · exact G3.out.foot i (.inl h)
                  · exact G3.out.foot i (.inr (.inl h))
                  · rcases HB.out with e | ⟨g, e, hg⟩
                    · rw [e] at h
                      exact G3.out.foot i (.inr (.inr (by rw [EO.out]; exact h)))
                    · have h' : (Value.slice a' (t + 1) c').ownBlock = some i := h
                      rw [e] at h'
                      cases h'
                      exact .inr (by omega)
        · have E1 : Hid (writeR r k s = (r1, 1)) := by show _ = _; rw [E.out, if_pos (.inr (.inr hs))]
          have hs2 : ¬ (s.size : Int) = 512 := by omega
          have hs3 : ((s.size : Int) != 512) = true := by simpa using hs2
          have hs1 : ((s.size : Int) == 512) = false := by simpa using (fun h : (s.size : Int) = 512 => hs (by omega))
          go_wp2
          go_ret
          rw [E1.out]
          exact ⟨rfl, R1, H.out, G.out⟩
end
end Go.Proofs.Ytedcpmkfanlicaa
