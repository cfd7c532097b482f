/- Two logs side by side, numbered by twos, one of them pruned. -/
import Derived.Test.YtgkjckfkbpijpaaLogUnionW
set_option linter.unusedVariables false
set_option linter.unusedSimpArgs false
namespace Go.Proofs.Ytgkjckfkbpijpaa
open Go Go.RowKit Go.Sort Go.Lib

def ApartV (a b : Value) : Prop := ∀ i, a.ownBlock = some i → b.ownBlock ≠ some i
theorem ApartV.symm {a b : Value} (h : ApartV a b) : ApartV b a := fun i hb ha => h i ha hb
theorem LogAt.base {w : World} {B B' p : Nat} {v : Value} {cs : List Cm} {l f : Int} (h : LogAt w B p v cs l f) (hB : B' ≤ B) : LogAt w B' p v cs l f :=
  ⟨h.blk, Nat.le_trans hB h.low, owns_mono h.own hB, fun c hc => ⟨owns_mono (h.keys c hc).1 hB, (h.keys c hc).2⟩⟩
/-- what changes another log leaves this one -/
theorem LogAt.other {w w' : World} {B p q : Nat} {v u : Value} {cs cs2 : List Cm} {l f l2 f2 : Int} (h : LogAt w B p v cs l f) (g : LogAt w B q u cs2 l2 f2) (hpq : p ≠ q) (ha : ApartV v u)
    (X : Chg (fun i => i = q ∨ u.ownBlock = some i) w w') : LogAt w' B p v cs l f := by
  refine h.chg X ?_ ?_ ?_
  · rintro (e | e)
    · exact hpq e
    · rcases owns_apart_block g.own h.blk (by decide) with x | x
      · rw [x] at e; exact absurd e (by simp)
      · exact x e
  · rintro i hi (e | e)
    · subst e
      rcases owns_apart_block h.own g.blk (by decide) with x | x
      · rw [x] at hi; exact absurd hi (by simp)
      · exact x hi
    · exact ha i hi e
  · rintro c hc i hi (e | e)
    · subst e
      rcases owns_apart_block (h.keys c hc).1 g.blk (by decide) with x | x
      · rw [x] at hi; exact absurd hi (by simp)
      · exact x hi
    · rcases owns_apart (h.keys c hc).1 g.own (by decide) with x | x
      · rw [x] at hi; exact absurd hi (by simp)
      · exact x (hi.trans e.symm)
theorem apart_new {w : World} {B p : Nat} {v u u' : Value} {cs : List Cm} {l f : Int} (h : LogAt w B p v cs l f) (ha : ApartV v u) (hu : u'.ownBlock = u.ownBlock ∨ ∃ g, u'.ownBlock = some g ∧ w.heap.size ≤ g) : ApartV v u' := by
  intro i hi e
  rcases hu with x | ⟨g, x, hg⟩
  · exact ha i hi (x ▸ e)
  · rw [x] at e
    cases e
    have := (h.own.lt _ hi).2
    omega

/-- the same numbers, the same keys -/
def Same : List Cm → List Cm → Prop
  | [], [] => True
  | a :: r, b :: t => a.num = b.num ∧ a.ks.Perm b.ks ∧ Same r t
  | _, _ => False
theorem Same.snoc {n : Int} {s1 s2 : Value} {k1 k2 : List Key} (hk : k1.Perm k2) : ∀ {a b : List Cm}, Same a b → Same (a ++ [⟨n, s1, k1⟩]) (b ++ [⟨n, s2, k2⟩])
  | [], [], _ => ⟨rfl, hk, trivial⟩
  | _ :: _, _ :: _, h => ⟨h.1, h.2.1, Same.snoc hk h.2.2⟩
  | [], _ :: _, h => h.elim
  | _ :: _, [], h => h.elim
theorem Same.conf {since : Int} {ss : List Sp} : ∀ {a b : List Cm}, Same a b → conf a since ss = conf b since ss
  | [], [], _ => rfl
  | x :: r, y :: t, h => by
    have e : ss.any (fun s => hit x.ks s) = ss.any (fun s => hit y.ks s) := by congr 1; funext s; exact hit_perm h.2.1 s
    have := Same.conf (since := since) (ss := ss) h.2.2
    unfold Go.Proofs.Ytgkjckfkbpijpaa.conf at this ⊢
    rw [List.any_cons, List.any_cons, this, h.1, e]
  | [], _ :: _, h => h.elim
  | _ :: _, [], h => h.elim
/-- the numbers are two, four, six .. -/
def Nums (cs : List Cm) (i : Nat) : Prop := cs.length = i ∧ (∀ j (h : j < cs.length), cs[j].num = 2 * ((j : Int) + 1)) ∧ ∀ c ∈ cs, c.ks.length ≤ 20
theorem Nums.nil : Nums [] 0 := ⟨rfl, fun j h => absurd h (by simp), fun c h => by simp at h⟩
theorem Nums.snoc {cs : List Cm} {i : Nat} (h : Nums cs i) {sl : Value} {ks : List Key} (hk : ks.length ≤ 20) : Nums (cs ++ [⟨2 * (i : Int) + 2, sl, ks⟩]) (i + 1) := by
  refine ⟨by simp [h.1], fun j hj => ?_, fun c hc => ?_⟩
  · by_cases e : j < cs.length
    · rw [List.getElem_append_left e]; exact h.2.1 j e
    · have e2 : j = i := by have := h.1; simp at hj; omega
      subst e2
      rw [List.getElem_append_right (by omega)]
      simp only [h.1, Nat.sub_self, List.getElem_cons_zero]
      omega
  · rw [List.mem_append, List.mem_singleton] at hc
    rcases hc with hc | rfl
    · exact h.2.2 c hc
    · exact hk
theorem Nums.grows {cs : List Cm} {i : Nat} (h : Nums cs i) : Grows cs := fun a b hab hb => by
  rw [h.2.1 a (by omega), h.2.1 b hb]; omega
theorem Grows.drop {cs : List Cm} (h : Grows cs) (m : Nat) : Grows (cs.drop m) := fun a b hab hb => by
  rw [List.length_drop] at hb
  rw [List.getElem_drop, List.getElem_drop]
  exact h (m + a) (m + b) (by omega) (by omega)
/-- what is pruned is not asked for -/
theorem conf_drop {cs : List Cm} {o since : Int} {m : Nat} {ss : List Sp} (h : UpTo cs o m) (hs : o ≤ since) : conf (cs.drop m) since ss = conf cs since ss := by
  have e : conf cs since ss = (conf (cs.take m) since ss || conf (cs.drop m) since ss) := by
    unfold Go.Proofs.Ytgkjckfkbpijpaa.conf
    rw [← List.any_append, List.take_append_drop]
  have z : conf (cs.take m) since ss = false := by
    unfold Go.Proofs.Ytgkjckfkbpijpaa.conf
    rw [List.any_eq_false]
    intro c hc
    rw [List.mem_iff_getElem] at hc
    obtain ⟨i, hi, rfl⟩ := hc
    rw [List.length_take] at hi
    have := h.2.1 i (by omega) (by omega)
    rw [List.getElem_take]
    simp only [Bool.and_eq_true, decide_eq_true_iff, not_and]
    intro hlt
    omega
  rw [e, z, Bool.false_or]

/-- both logs hold the first i lists -/
def Two (w : World) (p q i : Nat) : Prop :=
  p < q ∧ ∃ csa va csb vb, LogAt w p p va csa (2 * (i : Int)) 0 ∧ LogAt w p q vb csb (2 * (i : Int)) 0 ∧ Nums csa i ∧ Nums csb i ∧ Same csa csb ∧ ApartV va vb
/-- the first holds one list more -/
def Mid (w : World) (p q i : Nat) (ks : List Key) : Prop :=
  p < q ∧ ∃ csa va csb vb sl ka, ka.Perm ks ∧ LogAt w p p va (csa ++ [⟨2 * (i : Int) + 2, sl, ka⟩]) (2 * (i : Int) + 2) 0 ∧ LogAt w p q vb csb (2 * (i : Int)) 0 ∧ Nums csa i ∧ Nums csb i ∧ Same csa csb ∧ ApartV va vb
theorem Two.ext {w w' : World} {p q i : Nat} (h : Two w p q i) (X : Ext w w') : Two w' p q i := by
  obtain ⟨h0, csa, va, csb, vb, h1, h2, h3⟩ := h
  exact ⟨h0, csa, va, csb, vb, h1.ext X, h2.ext X, h3⟩
theorem Two.lt {w : World} {p q i : Nat} (h : Two w p q i) : q < w.heap.size := by
  obtain ⟨h0, csa, va, csb, vb, h1, h2, h3⟩ := h; exact h2.lt
theorem add_first {w : World} {p q i : Nat} {sl : Value} {ks : List Key} (h : Two w p q i) (hi : i < 30) (hk : KeysIn w sl ks) (hl : ks.length ≤ 20) :
    Calls Try.prog 9 #[.pointer (some ⟨p, 0, none⟩), .int .i64 (2 * (i : Int) + 2), sl] w fun e w' => e = .returned (.int .i64 0) ∧ Mid w' p q i ks ∧ Chg (fun j => p ≤ j) w w' := by
  obtain ⟨h0, csa, va, csb, vb, ha, hb, na, nb, hs, hv⟩ := h
  refine (add_ok w p p va csa _ 0 (2 * (i : Int) + 2) sl ks ha (by omega) hk (by omega) (by rw [na.1]; omega)).mono ?_
  rintro e w' ⟨rfl, v', sl', ks', hp, hl', hx, hn⟩
  refine ⟨rfl, ⟨h0, csa, v', csb, vb, sl', ks', hp, hl', hb.other ha (by omega) hv.symm hx, na, nb, hs, (apart_new hb hv.symm hn).symm⟩, hx.mono ?_⟩
  rintro j hj (rfl | h)
  · exact Nat.le_refl _
  · exact (ha.own.lt j h).1
theorem add_second {w : World} {p q i : Nat} {sl : Value} {ks : List Key} (h : Mid w p q i ks) (hi : i < 30) (hk : KeysIn w sl ks) (hl : ks.length ≤ 20) :
    Calls Try.prog 9 #[.pointer (some ⟨q, 0, none⟩), .int .i64 (2 * (i : Int) + 2), sl] w fun e w' => e = .returned (.int .i64 0) ∧ Two w' p q (i + 1) ∧ Chg (fun j => p ≤ j) w w' := by
  obtain ⟨h0, csa, va, csb, vb, sa, ka, pa, ha, hb, na, nb, hs, hv⟩ := h
  refine (add_ok w p q vb csb _ 0 (2 * (i : Int) + 2) sl ks hb (by omega) hk (by omega) (by rw [nb.1]; omega)).mono ?_
  rintro e w' ⟨rfl, v', sl', ks', hp, hl', hx, hn⟩
  have e2 : (2 * ((i + 1 : Nat) : Int)) = 2 * (i : Int) + 2 := by omega
  refine ⟨rfl, ⟨h0, _, va, _, v', by rw [e2]; exact ha.other hb (by omega) hv hx, by rw [e2]; exact hl', na.snoc (by rw [pa.length_eq]; exact hl), nb.snoc (by rw [hp.length_eq]; exact hl), hs.snoc (pa.trans hp.symm), apart_new ha hv hn⟩, hx.mono ?_⟩
  rintro j hj (rfl | h)
  · omega
  · exact (hb.own.lt j h).1
theorem two_new {w : World} {p q : Nat} (hpq : p < q) (ha : LogAt w p p (.slice none 0 0) [] 0 0) (hb : LogAt w q q (.slice none 0 0) [] 0 0) : Two w p q 0 :=
  ⟨hpq, [], _, [], _, ha, hb.base (by omega), Nums.nil, Nums.nil, trivial, fun i hi => by simp [Value.ownBlock] at hi⟩

/-- the second has been pruned up to o: its floor is that -/
def Pruned (w : World) (p q : Nat) (n o : Int) : Prop :=
  ∃ csa va csb vb m, LogAt w p p va csa n 0 ∧ LogAt w p q vb (csb.drop m) n o ∧ UpTo csb o m ∧ Grows csa ∧ Grows csb ∧ (∀ c ∈ csa, c.ks.length ≤ 20) ∧ (∀ c ∈ csb, c.ks.length ≤ 20) ∧ Same csa csb ∧ csb.length ≤ 30
theorem Pruned.ext {w w' : World} {p q : Nat} {n o : Int} (h : Pruned w p q n o) (X : Ext w w') : Pruned w' p q n o := by
  obtain ⟨csa, va, csb, vb, m, h1, h2, h3⟩ := h
  exact ⟨csa, va, csb, vb, m, h1.ext X, h2.ext X, h3⟩
theorem prune_two {w : World} {p q i : Nat} {o : Nat} (h : Two w p q i) (hi : i ≤ 30) :
    Calls Try.prog 12 #[.pointer (some ⟨q, 0, none⟩), .int .i64 o] w fun e w' => e = .returned (.tuple #[]) ∧ Pruned w' p q (2 * (i : Int)) (min (o : Int) (2 * (i : Int))) ∧ Chg (fun j => p ≤ j) w w' := by
  obtain ⟨h0, csa, va, csb, vb, ha, hb, na, nb, hs, hv⟩ := h
  refine (prune_any w p q vb csb _ 0 o hb nb.grows (by rw [nb.1]; omega)).mono ?_
  rintro e w' ⟨rfl, m, v', hm, hl, hx, _⟩
  have e1 : max 0 (min (o : Int) (2 * (i : Int))) = min (o : Int) (2 * (i : Int)) := by omega
  rw [e1] at hl
  refine ⟨rfl, ⟨csa, va, csb, v', m, ha.other hb (by omega) hv (hx.mono fun _ _ e => .inl e), hl, hm, na.grows, nb.grows, na.2.2, nb.2.2, hs, by rw [nb.1]; exact hi⟩, hx.mono fun j _ e => by omega⟩
theorem conf_first {w : World} {p q : Nat} {n o : Int} {sv : Value} {ss : List Sp} {since : Int} (h : Pruned w p q n o) (hs : 0 ≤ since) (hn : since ≤ n) (hsp : SpansIn w sv ss) (hss : ss.length ≤ 4611686018427387904) :
    ∃ r : Bool, Calls Try.prog 11 #[.pointer (some ⟨p, 0, none⟩), .int .i64 since, sv] w (fun e w' => e = .returned (.tuple #[.bool r, .int .i64 0]) ∧ Ext w w') ∧
      ∀ w', Ext w w' → o ≤ since → Calls Try.prog 11 #[.pointer (some ⟨q, 0, none⟩), .int .i64 since, sv] w' (fun e w'' => e = .returned (.tuple #[.bool r, .int .i64 0]) ∧ Ext w' w'') := by
  obtain ⟨csa, va, csb, vb, m, ha, hb, hm, ga, gb, sa, sb, hsame, _⟩ := h
  refine ⟨conf csa since ss, conf_ok w p p va csa n 0 since sv ss ha (by omega) (by omega) ga hsp hss (fun c hc => by have := sa c hc; omega), fun w' X ho => ?_⟩
  have := conf_ok w' p q vb (csb.drop m) n o since sv ss (hb.ext X) (by omega) (by omega) (gb.drop m) (spansIn_ext hsp X) hss (fun c hc => by have := sb c (List.mem_of_mem_drop hc); omega)
  rw [conf_drop hm ho, ← hsame.conf] at this
  exact this
theorem conf_below {w : World} {p q : Nat} {n o : Int} {sv : Value} {since : Int} (h : Pruned w p q n o) (hn : since ≤ n) (ho : since < o) :
    Calls Try.prog 11 #[.pointer (some ⟨q, 0, none⟩), .int .i64 since, sv] w (fun e w' => e = .returned (.tuple #[.bool false, .int .i64 13]) ∧ w = w') := by
  obtain ⟨csa, va, csb, vb, m, ha, hb, _⟩ := h
  exact conf_state w p q vb (csb.drop m) n o since sv hb (by omega) ho
end Go.Proofs.Ytgkjckfkbpijpaa
