/- maps.Keys and slices.Collect at the device's loose blocks: the shelf's laying at this program (printed by dviter.py), and the keys collected. -/
import Derived.Test.YtedcpmkfanlicaaDvSmall
import Derived.Shelf.SlIterI.Collect
set_option linter.unusedVariables false
set_option linter.unusedSimpArgs false
namespace Go.Proofs
open Go.Shelf
def Try.iter_ren : Go.Shelf.Ren := ⟨fun | 7 => 46 | 10 => 52 | 8 => 50 | 11 => 53 | n => n, fun | 0 => 0 | 3 => 67 | 4 => 4 | 23 => 58 | 24 => 44 | 26 => 3 | 27 => 84 | 28 => 85 | 33 => 92 | n => n, fun n => n⟩
theorem Try.iterKeys : Go.Proofs.SlLaysZI.n7 Try.prog Try.iter_ren := {
  mixed := by kernel_rfl
  f7 := ⟨Try.f46.name, by decide, Try.func46.trans (congrArg some (by kernel_rfl))⟩
  f10 := ⟨Try.f52.name, by decide, Try.func52.trans (congrArg some (by kernel_rfl))⟩
  t0 := Try.underlying0
  a0 := Try.isAgg0
  z0 := Try.sizeOf0
  v0 := Try.zeroValue0
  t4 := Try.underlying4
  a4 := Try.isAgg4
  z4 := Try.sizeOf4
  v4 := Try.zeroValue4
  t23 := Try.underlying58
  a23 := Try.isAgg58
  z23 := Try.sizeOf58
  v23 := Try.zeroValue58
  t26 := Try.underlying3
  a26 := Try.isAgg3
  z26 := Try.sizeOf3
  v26 := Try.zeroValue3
  t27 := Try.underlying84
  a27 := Try.isAgg84
  z27 := Try.sizeOf84
  v27 := Try.zeroValue84
  t28 := Try.underlying85
  a28 := Try.isAgg85
  z28 := Try.sizeOf85
  v28 := Try.zeroValue85
  t33 := Try.underlying92
  a33 := Try.isAgg92
  z33 := Try.sizeOf92
  v33 := Try.zeroValue92
}
theorem Try.iterNext : Go.Proofs.SlLaysZI.n10 Try.prog Try.iter_ren := {
  mixed := by kernel_rfl
  f10 := ⟨Try.f52.name, by decide, Try.func52.trans (congrArg some (by kernel_rfl))⟩
  t0 := Try.underlying0
  a0 := Try.isAgg0
  z0 := Try.sizeOf0
  v0 := Try.zeroValue0
  t4 := Try.underlying4
  a4 := Try.isAgg4
  z4 := Try.sizeOf4
  v4 := Try.zeroValue4
  t23 := Try.underlying58
  a23 := Try.isAgg58
  z23 := Try.sizeOf58
  v23 := Try.zeroValue58
  t26 := Try.underlying3
  a26 := Try.isAgg3
  z26 := Try.sizeOf3
  v26 := Try.zeroValue3
  t33 := Try.underlying92
  a33 := Try.isAgg92
  z33 := Try.sizeOf92
  v33 := Try.zeroValue92
}
theorem Try.iterCollect : Go.Proofs.SlLaysZI.n8 Try.prog Try.iter_ren := {
  mixed := by kernel_rfl
  f8 := ⟨Try.f50.name, by decide, Try.func50.trans (congrArg some (by kernel_rfl))⟩
  f11 := ⟨Try.f53.name, by decide, Try.func53.trans (congrArg some (by kernel_rfl))⟩
  t0 := Try.underlying0
  a0 := Try.isAgg0
  z0 := Try.sizeOf0
  v0 := Try.zeroValue0
  t24 := Try.underlying44
  a24 := Try.isAgg44
  z24 := Try.sizeOf44
  v24 := Try.zeroValue44
  t26 := Try.underlying3
  a26 := Try.isAgg3
  z26 := Try.sizeOf3
  v26 := Try.zeroValue3
  t28 := Try.underlying85
  a28 := Try.isAgg85
  z28 := Try.sizeOf85
  v28 := Try.zeroValue85
  i26 := by kernel_rfl
}
end Go.Proofs
namespace Go.Proofs.Ytedcpmkfanlicaa
open Go Go.RowKit Go.Sort Go.Lib Go.Maps Go.Shelf

/-- maps.Keys: a closure over one new block that holds the map -/
theorem keys_of (mb : Option Nat) (W : World) : Calls Try.prog 46 #[.map mb] W fun e w' => e = .returned (.func (.func 52) #[] #[.pointer (some ⟨W.heap.size, 0, none⟩)]) ∧ w' = W.alloc (.cells #[.map mb] 58) :=
  callsIn_wide.1 (AnyZI.keys_in Try.iterKeys Fence.wide 5 trivial rfl mb W)
/-- slices.Collect of the keys of a map -/
theorem collect_of {w : World} {b n : Nat} {f : Int → Option Value} {Bm : Nat} (h : MapIs w b n f) (hB : Bm < w.heap.size) (hm : w.cell? ⟨Bm, 0, none⟩ = some (.map (some b))) (hn : n ≤ 1000000) :
    Calls Try.prog 50 #[.func (.func 52) #[] #[.pointer (some ⟨Bm, 0, none⟩)]] w fun e w' => ∃ (v : Value) (ss : List Int), e = .returned v ∧ ss.Nodup ∧ (∀ x, x ∈ ss ↔ (f x).isSome = true) ∧ ss.length ≤ n ∧ w'.ownsRow w.heap.size 3 1 v ss.length (ss.map encZ) ∧ (v = .slice none 0 0 ↔ ss = []) ∧ Below w.heap.size w w' := by
  obtain ⟨D, ho, hs, hd, hx⟩ := h.keys
  have hsz := ho.size_le
  have c := AnyZI.collect_in Try.iterCollect Fence.wide 5 trivial trivial rfl (by omega) 52 #[.pointer (some ⟨Bm, 0, none⟩)] trivial (Try.iterNext.f10.enters rfl) (fun ss => ss.Perm (intKeys D)) (Maps.size D) (by unfold maxLen; omega) (by omega) w
    (AnyZI.keys_gives Try.iterNext Fence.wide 3 trivial rfl (by omega) Bm b n D w hB hm ho)
  refine (callsIn_wide.1 c).mono ?_
  rintro e w' ⟨v, ss, rfl, hp, hr, hn, hb⟩
  exact ⟨v, ss, rfl, hp.nodup_iff.2 hd, fun x => by rw [hp.mem_iff, hx], by rw [hp.length_eq, ← hs]; exact hsz, hr, hn, hb⟩
end Go.Proofs.Ytedcpmkfanlicaa
