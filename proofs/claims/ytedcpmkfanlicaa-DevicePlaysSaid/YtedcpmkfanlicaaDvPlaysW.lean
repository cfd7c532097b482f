/- DevicePlays's walk. -/
import Derived.Test.YtedcpmkfanlicaaRfSame
import Derived.Test.YtedcpmkfanlicaaRfClone
set_option linter.unusedVariables false
set_option linter.unusedSimpArgs false
namespace Go.Proofs.Ytedcpmkfanlicaa
open Go Go.RowKit Go.Sort Go.Lib Go.Maps Go.Deep
def Two (wr : World) (L : Loc) (R : Rl) (m : Nat) : Prop := ∃ s r, DvIs wr L s m ∧ RfIs wr R r ∧ Sim s r m
def Own2 (L : Loc) (R : Rl) (i : Nat) : Prop := Foot L i ∨ RFt R i
theorem Two.lt {wr : World} {L : Loc} {R : Rl} {m : Nat} (h : Two wr L R m) : ∀ i, Own2 L R i → i < wr.heap.size := by
  obtain ⟨s, r, D, H, _⟩ := h
  exact fun i hi => hi.elim (D.lt i) (H.lt i)
theorem Two.chg {wr w' : World} {L : Loc} {R : Rl} {m : Nat} (h : Two wr L R m) {S : Nat → Prop} (X : Chg S wr w') (hs : ∀ i, Own2 L R i → ¬ S i) : Two w' L R m := by
  obtain ⟨s, r, D, H, sm⟩ := h
  exact ⟨s, r, D.chg X (fun i hi => hs i (.inl hi)), H.chg X (fun i hi => hs i (.inr hi)), sm⟩
theorem Two.mono {wr : World} {L : Loc} {R : Rl} {m n : Nat} (h : Two wr L R m) (hn : m ≤ n) : Two wr L R n := by
  obtain ⟨s, r, D, H, sm⟩ := h
  exact ⟨s, r, D.mono hn, H, sm.mono hn⟩
/-- the two at work, and those that were cloned from -/
structure Plays (w wr : World) (L : Loc) (R : Rl) (old : Option (Loc × Rl)) (m : Nat) : Prop where
  now : Two wr L R m
  dj : ∀ i, Foot L i → ¬ RFt R i
  low : ∀ i, Own2 L R i → w.heap.size ≤ i
  was : ∀ Lo Ro, old = some (Lo, Ro) → Two wr Lo Ro m ∧ (∀ i, Foot Lo i → ¬ RFt Ro i) ∧ (∀ i, Own2 Lo Ro i → w.heap.size ≤ i ∧ ¬ Own2 L R i)
  chg : Chg (fun _ => False) w wr
theorem Plays.ext {w wr w' : World} {L : Loc} {R : Rl} {old : Option (Loc × Rl)} {m : Nat} (h : Plays w wr L R old m) (X : Chg (fun _ => False) wr w') : Plays w w' L R old m :=
  ⟨h.now.chg X (fun _ _ h => h), h.dj, h.low, fun Lo Ro e => ⟨(h.was Lo Ro e).1.chg X (fun _ _ h => h), (h.was Lo Ro e).2⟩, h.chg.trans X (fun _ _ h => h)⟩
theorem Plays.mono {w wr : World} {L : Loc} {R : Rl} {old : Option (Loc × Rl)} {m n : Nat} (h : Plays w wr L R old m) (hn : m ≤ n) : Plays w wr L R old n :=
  ⟨h.now.mono hn, h.dj, h.low, fun Lo Ro e => ⟨(h.was Lo Ro e).1.mono hn, (h.was Lo Ro e).2⟩, h.chg⟩
/-- a step on the two at work -/
theorem Plays.step {w wr w' : World} {L : Loc} {R : Rl} {old : Option (Loc × Rl)} {m : Nat} (h : Plays w wr L R old m) (P : Pair wr w' L R (m + 1)) : ∃ R', R'.p = R.p ∧ Plays w w' L R' old (m + 1) := by
  obtain ⟨⟨s', r', R', D, H, sm, hp, hf⟩, X⟩ := P
  have hlt := h.now.lt
  have hs := h.chg.size
  refine ⟨R', hp, ⟨⟨s', r', D, H, sm⟩, ?_, ?_, ?_, h.chg.trans X (fun i hi h' => absurd hi (by have := h.low i h'; omega))⟩⟩
  · intro i hi hr
    rcases hf i hr with h' | h'
    · exact h.dj i hi h'
    · have := hlt i (.inl hi); omega
  · rintro i (hi | hi)
    · exact h.low i (.inl hi)
    · rcases hf i hi with h' | h'
      · exact h.low i (.inr h')
      · omega
  · intro Lo Ro e
    obtain ⟨t, d1, d2⟩ := h.was Lo Ro e
    refine ⟨(t.chg X (fun i hi h' => (d2 i hi).2 h')).mono (by omega), d1, fun i hi => ⟨(d2 i hi).1, ?_⟩⟩
    rintro (h' | h')
    · exact (d2 i hi).2 (.inl h')
    · rcases hf i h' with h'' | h''
      · exact (d2 i hi).2 (.inr h'')
      · have := t.lt i hi; omega
/-- those at work are cloned -/
theorem Plays.cloned {w wr w1 w2 : World} {L L2 : Loc} {R R2 : Rl} {old : Option (Loc × Rl)} {m : Nat} {s : St} {r : Rf} (h : Plays w wr L R old m) (D : DvIs wr L s m) (H : RfIs wr R r) (sm : Sim s r m) (H1 : RfIs w1 R2 r) (f1 : ∀ i, RFt R2 i → wr.heap.size ≤ i) (X1 : Chg (fun _ => False) wr w1)
    (D2 : DvIs w2 L2 s m) (f2 : ∀ i, Foot L2 i → w1.heap.size ≤ i) (X2 : Chg (fun _ => False) w1 w2) : Plays w w2 L2 R (some (L, R2)) m := by
  have X := X1.trans X2 (fun _ _ h => h)
  have s0 := h.chg.size
  have s1 := X1.size
  refine ⟨⟨s, r, D2, H.ext X, sm⟩, ?_, ?_, ?_, h.chg.trans X (fun _ _ h => h)⟩
  · intro i hi hr
    have := f2 i hi
    have := H.lt i hr
    omega
  · rintro i (hi | hi)
    · have := f2 i hi; omega
    · exact h.low i (.inr hi)
  · rintro Lo Ro e
    cases e
    refine ⟨⟨s, r, D.ext X, H1.ext X2, sm⟩, ?_, ?_⟩
    · intro i hi hr
      have := f1 i hr
      have := D.lt i hi
      omega
    · rintro i (hi | hi)
      · refine ⟨h.low i (.inl hi), ?_⟩
        rintro (h' | h')
        · have := f2 i h'; have := D.lt i hi; omega
        · exact h.dj i hi h'
      · have a1 := f1 i hi
        have a2 := H1.lt i hi
        refine ⟨by omega, ?_⟩
        rintro (h' | h')
        · have := f2 i h'; omega
        · have := H.lt i h'; omega
def oldL (old : Option (Loc × Rl)) : Value := match old with | some (L, _) => .pointer (some ⟨L.p, 0, none⟩) | none => .pointer none
def oldR (old : Option (Loc × Rl)) : Value := match old with | some (_, R) => .pointer (some ⟨R.p, 0, none⟩) | none => .pointer none
set_option maxHeartbeats 4000000 in
set_option maxRecDepth 100000 in
theorem devicePlays_any (w : World) (blocks : Int) (a : Option Addr) (cap : Nat) (l : List OpV) (hbl : wfK blocks) (HL : OpsIn w a l) :
    Calls Try.prog 9 #[.int .i64 blocks, .slice a l.length cap] w fun e w' => e = .returned (.bool true) ∧ Chg (fun _ => False) w w' := by
  have mixed := Try.mixed
  have S0 := Lib.hid (shown_any w)
  have hsm : l.length ≤ 9223372036854775807 := HL.small
  have HL := Lib.hid HL
  clear hbl
  generalize hn : l.length = n at hsm ⊢
  have HN := Lib.hid hn
  clear hn
  go_enter Try.func9, Try.ntmps9
  go_wp2_with fail
  refine S0.out.mono ?_
  rintro e w0 ⟨rfl, Y0⟩
  have Y0 := Lib.hid Y0
  clear S0
  have q := Lib.hid (new_st blocks w0)
  go_wp2_with fail
  refine q.out.mono ?_
  rintro e w1 ⟨rfl, D, X1⟩
  have D := Lib.hid D
  have X1 := Lib.hid X1
  clear q
  have q := Lib.hid (newR_any blocks w1)
  go_wp2_with fail
  refine q.out.mono ?_
  rintro e w2 ⟨rfl, H, X2⟩
  obtain ⟨L, hL⟩ : ∃ L : Loc, L = ⟨w0.heap.size + 2, w0.heap.size, w0.heap.size + 1⟩ := ⟨_, rfl⟩
  obtain ⟨R, hR⟩ : ∃ R : Rl, R = ⟨w1.heap.size, .slice none 0 0, .slice none 0 0⟩ := ⟨_, rfl⟩
  have eL : w0.heap.size + 2 = L.p := by rw [hL]
  have eR : w1.heap.size = R.p := by rw [hR]
  have P : Hid (Plays w w2 L R none 0) := by
    have D' := D.out
    rw [← hL] at D'
    rw [← hR] at H
    have f1 : ∀ i, Foot L i → w0.heap.size ≤ i := by rw [hL]; rintro i (rfl | rfl | rfl) <;> (simp only; omega)
    have f2 : ∀ i, RFt R i → i = w1.heap.size := by
      rw [hR]
      rintro i (h | h | h)
      · exact h
      · cases h
      · cases h
    have s0 := Y0.out.size
    have s1 := X1.out.size
    refine ⟨⟨_, _, D'.ext X2, H, sim_new blocks⟩, ?_, ?_, (fun Lo Ro e => by cases e), (Y0.out.trans X1.out (fun _ _ h => h)).trans X2 (fun _ _ h => h)⟩
    · intro i hi hr
      have := D'.lt i hi
      have := f2 i hr
      omega
    · rintro i (hi | hi)
      · have := f1 i hi; omega
      · have := f2 i hi; omega
  rw [eL, eR]
  obtain ⟨rp, hrp⟩ : ∃ x, x = R.p := ⟨_, rfl⟩
  rw [← hrp]
  have RP := Lib.hid hrp.symm
  clear q D X1 X2 H hL hR eL eR hrp Y0
  go_upto_block 0 with fail
  go_cut [6, 8, 9, 10] (fun s6 s8 s9 s10 wx => ∃ (L : Loc) (R : Rl) (old : Option (Loc × Rl)), s6 = .pointer (some ⟨L.p, 0, none⟩) ∧ s8 = oldL old ∧ s9 = oldR old ∧ Aside (R.p = rp) ∧ Aside (Plays w wx L R old 80))
  case rest =>
    clear P RP HL HN hsm
    obtain ⟨L, R, old, rfl, rfl, rfl, RP, P⟩ := hcut
    have RP : Hid (R.p = rp) := RP
    have P : Hid (Plays w wc L R old 80) := P
    cases old with
    | none =>
      unfold oldL oldR
      go_wp2
      go_ret
      exact ⟨rfl, P.out.chg⟩
    | some LR =>
      obtain ⟨Lo, Ro⟩ := LR
      unfold oldL oldR
      obtain ⟨T, d1, d2⟩ := P.out.was Lo Ro rfl
      obtain ⟨so, ro, D, H, sm⟩ := T
      obtain ⟨s, r, Dn, Hn, smn⟩ := P.out.now
      have Dn := Lib.hid Dn
      have Hn := Lib.hid Hn
      have smn := Lib.hid smn
      have D := Lib.hid D
      have H := Lib.hid H
      have sm := Lib.hid sm
      have d1 := Lib.hid d1
      have d2 := Lib.hid d2
      have Y : Hid (Chg (fun _ => False) w wc) := P.out.chg
      clear P
      have q := Lib.hid (same_any D.out H.out sm.out)
      go_wp2_with fail
      refine q.out.mono ?_
      rintro e w5 ⟨rfl, X⟩
      have D := Lib.hid (D.out.ext X)
      have H := Lib.hid (H.out.ext X)
      have Dn := Lib.hid (Dn.out.ext X)
      have Hn := Lib.hid (Hn.out.ext X)
      have Y : Hid (Chg (fun _ => False) w w5) := Y.out.trans X (fun _ _ h => h)
      clear q X
      have ok := Lib.hid D.out.okay
      have q := Lib.hid (crash_st D.out (by omega) 5 1 100 ⟨by decide, by decide⟩)
      go_wp2_with fail
      refine q.out.mono ?_
      rintro e w6 ⟨rfl, D', X⟩
      have D := Lib.hid D'
      have H := Lib.hid (H.out.chg X (fun i hi h => d1.out i h hi))
      have Dn := Lib.hid (Dn.out.chg X (fun i hi h => (d2.out i (.inl h)).2 (.inl hi)))
      have Hn := Lib.hid (Hn.out.chg X (fun i hi h => (d2.out i (.inl h)).2 (.inr hi)))
      have Y : Hid (Chg (fun _ => False) w w6) := Y.out.trans X (fun i hi h => absurd hi (by have := (d2.out i (.inl h)).1; omega))
      clear q X D'
      have q := Lib.hid (crashRR_any H.out (sm.out.fit ok.out (by omega)) 5 1 100 ⟨by decide, by decide⟩)
      go_wp2_with fail
      refine q.out.mono ?_
      rintro e w7 ⟨rfl, R1, H1, G⟩
      have sm := Lib.hid (sm.out.crashes ok.out 5 1 100 ⟨by decide, by decide⟩)
      have lt6 := Lib.hid D.out.lt
      have ltn := Lib.hid Dn.out.lt
      have lth := Lib.hid Hn.out.lt
      have D := Lib.hid (D.out.chg G.chg d1.out)
      have H := Lib.hid H1
      have Dn := Lib.hid (Dn.out.chg G.chg (fun i hi h => (d2.out i (.inr h)).2 (.inl hi)))
      have Hn := Lib.hid (Hn.out.chg G.chg (fun i hi h => (d2.out i (.inr h)).2 (.inr hi)))
      have e1 : Ro.p = R1.p := G.p.symm
      have s6 := Y.out.size
      have d3 : Hid (∀ i, RFt R1 i → ¬ Foot Lo i ∧ ¬ Own2 L R i ∧ w.heap.size ≤ i) := fun i hi => by
        rcases G.foot i hi with h | h
        · exact ⟨fun h' => d1.out i h' h, (d2.out i (.inr h)).2, (d2.out i (.inr h)).1⟩
        · refine ⟨fun h' => by have := lt6.out i h'; omega, ?_, by omega⟩
          rintro (h' | h')
          · have := ltn.out i h'; omega
          · have := lth.out i h'; omega
      have Y : Hid (Chg (fun _ => False) w w7) := Y.out.trans G.chg (fun i hi h => absurd hi (by have := (d2.out i (.inr h)).1; omega))
      rw [e1]
      clear q G H1 e1 s6
      have q := Lib.hid (start_st D.out)
      go_wp2_with fail
      refine q.out.mono ?_
      rintro e w8 ⟨rfl, D', X⟩
      have D := Lib.hid D'
      have H := Lib.hid (H.out.chg X (fun i hi h => (d3.out i hi).1 h))
      have Dn := Lib.hid (Dn.out.chg X (fun i hi h => (d2.out i (.inl h)).2 (.inl hi)))
      have Hn := Lib.hid (Hn.out.chg X (fun i hi h => (d2.out i (.inl h)).2 (.inr hi)))
      have Y : Hid (Chg (fun _ => False) w w8) := Y.out.trans X (fun i hi h => absurd hi (by have := (d2.out i (.inl h)).1; omega))
      clear q X D'
      have q := Lib.hid (startR_any H.out)
      go_wp2_with fail
      refine q.out.mono ?_
      rintro e w9 ⟨rfl, H', X⟩
      have sm := Lib.hid sm.out.start
      have rp1 : Hid (RFt R1 R1.p) := .inl rfl
      have D := Lib.hid (D.out.chg X (fun i hi h => (d3.out i (h ▸ rp1.out)).1 hi))
      have H := Lib.hid H'
      have Dn := Lib.hid (Dn.out.chg X (fun i hi h => (d3.out i (h ▸ rp1.out)).2.1 (.inl hi)))
      have Hn := Lib.hid (Hn.out.chg X (fun i hi h => (d3.out i (h ▸ rp1.out)).2.1 (.inr hi)))
      have Y : Hid (Chg (fun _ => False) w w9) := Y.out.trans X (fun i hi h => absurd hi (by have := (d3.out i (h ▸ rp1.out)).2.2; omega))
      clear q X H'
      have q := Lib.hid (same_any D.out H.out sm.out)
      go_wp2_with fail
      refine q.out.mono ?_
      rintro e w10 ⟨rfl, X⟩
      have Dn := Lib.hid (Dn.out.ext X)
      have Hn := Lib.hid (Hn.out.ext X)
      have Y : Hid (Chg (fun _ => False) w w10) := Y.out.trans X (fun _ _ h => h)
      clear q X
      have q := same_any Dn.out Hn.out smn.out
      rw [RP.out] at q
      have q := Lib.hid q
      go_wp2_with fail
      refine q.out.mono ?_
      rintro e w11 ⟨rfl, X⟩
      have Y : Hid (Chg (fun _ => False) w w11) := Y.out.trans X (fun _ _ h => h)
      clear q X
      go_wp2
      go_ret
      exact ⟨rfl, Y.out⟩
  go_wp2
  go_loopg [6, 8, 9, 10] 80 (fun kx s6 s8 s9 s10 wr => ∃ (j : Nat) (L : Loc) (R : Rl) (old : Option (Loc × Rl)), s10 = .int .i64 j ∧ s6 = .pointer (some ⟨L.p, 0, none⟩) ∧ s8 = oldL old ∧ s9 = oldR old ∧ j ≤ n ∧ j ≤ 80 ∧ 80 - j ≤ kx ∧ Aside (R.p = rp) ∧ Aside (Plays w wr L R old j))
  case atStart => exact ⟨0, L, R, none, rfl, rfl, rfl, rfl, Nat.zero_le _, Nat.zero_le _, by omega, RP.out, P.out⟩
  case round =>
    clear P RP
    obtain ⟨j, L, R, old, rfl, rfl, rfl, rfl, hjn, hj80, hg, RP, P⟩ := hrel
    have RP : Hid (R.p = rp) := RP
    have P : Hid (Plays w wr L R old j) := P
    by_cases hlt : j < n
    · by_cases hl8 : j < 80
      · have hjl : j < l.length := by have := HN.out; omega
        obtain ⟨b, o, rfl, hb, C⟩ := HL.out.get j hjl
        obtain ⟨op, hop⟩ : ∃ x, x = l[j] := ⟨_, rfl⟩
        rw [← hop] at C
        have CC : CellsAt wr b (o + j * 7) (opCells op) := P.out.chg.cells C id
        clear C hb hop
        have c0 : wr.cell? ⟨b, o + j * 7, none⟩ = some (.int .i64 op.kind) := CC 0 _ rfl
        have c1 : wr.cell? ⟨b, o + j * 7 + 1, none⟩ = some (.int .i64 op.n) := CC 1 _ rfl
        have c2 : wr.cell? ⟨b, o + j * 7 + 2, none⟩ = some (.int .i64 op.c) := CC 2 _ rfl
        have c3 : wr.cell? ⟨b, o + j * 7 + 3, none⟩ = some (.int .i64 op.less) := CC 3 _ rfl
        have c4 : wr.cell? ⟨b, o + j * 7 + 4, none⟩ = some (.int .u64 op.mask) := CC 4 _ rfl
        have c5 : wr.cell? ⟨b, o + j * 7 + 5, none⟩ = some (.int .i64 op.torn) := CC 5 _ rfl
        have c6 : wr.cell? ⟨b, o + j * 7 + 6, none⟩ = some (.int .i64 op.bytes) := CC 6 _ rfl
        clear CC
        have z1 : (j : Int) < (n : Int) := by omega
        have z0 : (0 : Int) ≤ (j : Int) := by omega
        obtain ⟨s, r, D, H, sm⟩ := P.out.now
        have D := Lib.hid D
        have H := Lib.hid H
        have sm := Lib.hid sm
        have DJ := Lib.hid P.out.dj
        go_upto_if 37 with fail
        go_cut [6, 8, 9] (fun s6 s8 s9 wx => ∃ (L' : Loc) (R' : Rl) (old' : Option (Loc × Rl)), s6 = .pointer (some ⟨L'.p, 0, none⟩) ∧ s8 = oldL old' ∧ s9 = oldR old' ∧ Aside (R'.p = rp) ∧ Aside (Plays w wx L' R' old' (j + 1)))
        case first =>
          by_cases k6 : op.kind = 6
          · have ok := Lib.hid D.out.okay
            have q := cloneR_any H.out (by have := sm.out.len; omega) (by rw [sm.out.lo, List.length_map]; have := ok.out.lo; omega)
            rw [RP.out] at q
            have q := Lib.hid q
            clear c1 c2 c3 c4 c5 c6
            go_wp2_with fail
            refine q.out.mono ?_
            rintro e w3 ⟨R2, rfl, H1, f1, X1⟩
            have H1 := Lib.hid H1
            have f1 := Lib.hid f1
            have X1 := Lib.hid X1
            have q2 := Lib.hid (clone_st (D.out.ext X1.out))
            clear q
            go_wp2_with fail
            refine q2.out.mono ?_
            rintro e w4 ⟨L2, rfl, D2, f2, X2⟩
            have PP := Lib.hid ((P.out.cloned D.out H.out sm.out H1.out f1.out X1.out D2 f2 X2).mono (show j ≤ j + 1 by omega))
            clear q2 D2 f2 X2 c0
            go_wp2_with fail
            go_meet
            exact ⟨L2, R, some (L, R2), rfl, rfl, rfl, RP.out, PP.out⟩
          · have k6' : (op.kind == 6) = false := by simpa using k6
            have q := does_any D.out H.out sm.out (by omega) DJ.out op
            have eo : (opCells op).toArray = #[.int .i64 op.kind, .int .i64 op.n, .int .i64 op.c, .int .i64 op.less, .int .u64 op.mask, .int .i64 op.torn, .int .i64 op.bytes] := rfl
            rw [RP.out, eo] at q
            have q := Lib.hid q
            clear eo
            go_wp2_with fail
            refine q.out.mono ?_
            rintro e w3 ⟨rfl, PR⟩
            obtain ⟨R', hR', PP⟩ := P.out.step PR
            have PP := Lib.hid PP
            have RP' : Hid (R'.p = rp) := hR'.trans RP.out
            clear q PR hR' c0 c1 c2 c3 c4 c5 c6
            go_wp2_with fail
            go_meet
            exact ⟨L, R', old, rfl, rfl, rfl, RP'.out, PP.out⟩
        case rest =>
          clear P RP D H sm DJ c0 c1 c2 c3 c4 c5 c6
          obtain ⟨L', R', old', rfl, rfl, rfl, RP, P⟩ := hcut
          have RP : Hid (R'.p = rp) := RP
          have P : Hid (Plays w wc L' R' old' (j + 1)) := P
          obtain ⟨s', r', D, H, sm⟩ := P.out.now
          have q := same_any D H sm
          rw [RP.out] at q
          have q := Lib.hid q
          clear D H sm
          go_wp2_with fail
          refine q.out.mono ?_
          rintro e w5 ⟨rfl, X5⟩
          have P := Lib.hid (P.out.ext X5)
          clear q X5
          go_wp2
          go_roundg (80 - (j + 1))
          case measure => omega
          case rel => exact ⟨j + 1, L', R', old', by go_num, rfl, rfl, rfl, by omega, by omega, Nat.le_refl _, RP.out, P.out⟩
      · have hd : decide ((j : Int) < 80) = false := by simp; omega
        go_wp2_with fail
        go_meet
        exact ⟨L, R, old, rfl, rfl, rfl, RP.out, P.out.mono (by omega)⟩
    · go_wp2_with fail
      go_meet
      exact ⟨L, R, old, rfl, rfl, rfl, RP.out, P.out.mono (by omega)⟩
end Go.Proofs.Ytedcpmkfanlicaa
