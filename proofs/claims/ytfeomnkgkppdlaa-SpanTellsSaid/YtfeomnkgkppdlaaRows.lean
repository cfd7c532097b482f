/-
  No cell of these rows narrows 'for every input' (looked for: loops, veiled, ifaces, maps, wideKeys, modest, calm, conditions, laid).
  DERIVED. THE GIVEN ROWS OF THIS SEAT. 7 by the template 'for every input the law returns true; each argument reads behind the call as it read before'; 0 by the template 'total and deterministic' (their statements: YtfeomnkgkppdlaaTotals.lean).
  GIVEN WITH THE SEED: the statements are not yours to turn. If you find one false, say at which input.
  Laid BY PROGRAM, IN A SANDBOX (cutbox-rows.mjs): the forced cells as the released guide's own fill.sh prints them over the translation 92284ff0a2498db7… (all of the seat's roots in one cut). By AI agents, Wed Nov 11 2026. No macro, syntax, notation, axiom, sorry.
-/
import Derived.Test.YtfeomnkgkppdlaaChecked
import GoSem.Claim
import GoSem.ClaimJoined
import GoSem.ClaimMapViews
import Derived.JoinedTies
import Derived.KernelRfl
namespace Go.Proofs.Ytfeomnkgkppdlaa
/- THE CELL 'sum', in the pinned program and in every row, IS THE sha256 OF THE DUMP (.gsa) THAT YtfeomnkgkppdlaaProg.lean LOADS. Nothing in Lean hashes anything: it is a label: what it is worth is what the hold of that sum in a sandbox is worth. -/
noncomputable def Try.pinned : Pinned := { name := "ytfeomnkgkppdlaa", sum := "92284ff0a2498db7a35ce7cab9fc06683d3609ca57524e4ed726139d7829aeb2", checked := Try.checked }
namespace Rows
def none {H : Type} : Left H := { results := [], args := [] }

/-- 'wainscotlaw08.SpanClean': WHATEVER THE INPUT: true; the input reads as it did. -/
def spanCleanSpec : ChangeSpec := { name := "spanClean", fn := fun _ => fun
  | [d] => { results := [.lit (.bool true)], args := [d] }
  | _ => none }
def spanCleanRow : OpenClaim := { program := "ytfeomnkgkppdlaa", sum := "92284ff0a2498db7a35ce7cab9fc06683d3609ca57524e4ed726139d7829aeb2", func := "wainscot/wainscotlaw08.SpanClean", spec := "spanClean", inPlace := ["internal/bytealg.Compare"], unfollowed := true, recurses := true, apart := false }
def SpanCleanSaid : Prop := spanCleanRow.holds Try.pinned (OpenSpec.ofChange spanCleanSpec)

/-- ITS FALSE NEIGHBOUR: 'it returns false'. Refute it at one input. -/
def spanCleanWrong : ChangeSpec := { name := "spanClean", fn := fun _ => fun
  | [d] => { results := [.lit (.bool false)], args := [d] }
  | _ => none }
def SpanCleanWrongFalsely : Prop := spanCleanRow.holds Try.pinned (OpenSpec.ofChange spanCleanWrong)

/-- 'wainscotlaw08.SpanParts': WHATEVER THE INPUT: true; the input reads as it did. -/
def spanPartsSpec : ChangeSpec := { name := "spanParts", fn := fun _ => fun
  | [d1, d2] => { results := [.lit (.bool true)], args := [d1, d2] }
  | _ => none }
def spanPartsRow : OpenClaim := { program := "ytfeomnkgkppdlaa", sum := "92284ff0a2498db7a35ce7cab9fc06683d3609ca57524e4ed726139d7829aeb2", func := "wainscot/wainscotlaw08.SpanParts", spec := "spanParts", inPlace := ["internal/bytealg.Compare"], unfollowed := true, recurses := true, apart := false }
def SpanPartsSaid : Prop := spanPartsRow.holds Try.pinned (OpenSpec.ofChange spanPartsSpec)

/-- ITS FALSE NEIGHBOUR: 'it returns false'. Refute it at one input. -/
def spanPartsWrong : ChangeSpec := { name := "spanParts", fn := fun _ => fun
  | [d1, d2] => { results := [.lit (.bool false)], args := [d1, d2] }
  | _ => none }
def SpanPartsWrongFalsely : Prop := spanPartsRow.holds Try.pinned (OpenSpec.ofChange spanPartsWrong)

/-- 'wainscotlaw08.SpanNone': WHATEVER THE INPUT: true; the input reads as it did. -/
def spanNoneSpec : ChangeSpec := { name := "spanNone", fn := fun _ => fun
  | [d] => { results := [.lit (.bool true)], args := [d] }
  | _ => none }
def spanNoneRow : OpenClaim := { program := "ytfeomnkgkppdlaa", sum := "92284ff0a2498db7a35ce7cab9fc06683d3609ca57524e4ed726139d7829aeb2", func := "wainscot/wainscotlaw08.SpanNone", spec := "spanNone", inPlace := ["internal/bytealg.Compare"], unfollowed := true, recurses := true, apart := false }
def SpanNoneSaid : Prop := spanNoneRow.holds Try.pinned (OpenSpec.ofChange spanNoneSpec)

/-- ITS FALSE NEIGHBOUR: 'it returns false'. Refute it at one input. -/
def spanNoneWrong : ChangeSpec := { name := "spanNone", fn := fun _ => fun
  | [d] => { results := [.lit (.bool false)], args := [d] }
  | _ => none }
def SpanNoneWrongFalsely : Prop := spanNoneRow.holds Try.pinned (OpenSpec.ofChange spanNoneWrong)

/-- 'wainscotlaw08.SpanBoth': WHATEVER THE INPUT: true; the input reads as it did. -/
def spanBothSpec : ChangeSpec := { name := "spanBoth", fn := fun _ => fun
  | [d1, d2, d3] => { results := [.lit (.bool true)], args := [d1, d2, d3] }
  | _ => none }
def spanBothRow : OpenClaim := { program := "ytfeomnkgkppdlaa", sum := "92284ff0a2498db7a35ce7cab9fc06683d3609ca57524e4ed726139d7829aeb2", func := "wainscot/wainscotlaw08.SpanBoth", spec := "spanBoth", inPlace := ["internal/bytealg.Compare"], unfollowed := true, recurses := true, apart := false }
def SpanBothSaid : Prop := spanBothRow.holds Try.pinned (OpenSpec.ofChange spanBothSpec)

/-- ITS FALSE NEIGHBOUR: 'it returns false'. Refute it at one input. -/
def spanBothWrong : ChangeSpec := { name := "spanBoth", fn := fun _ => fun
  | [d1, d2, d3] => { results := [.lit (.bool false)], args := [d1, d2, d3] }
  | _ => none }
def SpanBothWrongFalsely : Prop := spanBothRow.holds Try.pinned (OpenSpec.ofChange spanBothWrong)

/-- 'wainscotlaw08.SpanJoins': WHATEVER THE INPUT: true; the input reads as it did. -/
def spanJoinsSpec : ChangeSpec := { name := "spanJoins", fn := fun _ => fun
  | [d1, d2, d3, d4] => { results := [.lit (.bool true)], args := [d1, d2, d3, d4] }
  | _ => none }
def spanJoinsRow : OpenClaim := { program := "ytfeomnkgkppdlaa", sum := "92284ff0a2498db7a35ce7cab9fc06683d3609ca57524e4ed726139d7829aeb2", func := "wainscot/wainscotlaw08.SpanJoins", spec := "spanJoins", inPlace := ["internal/bytealg.Compare"], unfollowed := true, recurses := true, apart := false }
def SpanJoinsSaid : Prop := spanJoinsRow.holds Try.pinned (OpenSpec.ofChange spanJoinsSpec)

/-- ITS FALSE NEIGHBOUR: 'it returns false'. Refute it at one input. -/
def spanJoinsWrong : ChangeSpec := { name := "spanJoins", fn := fun _ => fun
  | [d1, d2, d3, d4] => { results := [.lit (.bool false)], args := [d1, d2, d3, d4] }
  | _ => none }
def SpanJoinsWrongFalsely : Prop := spanJoinsRow.holds Try.pinned (OpenSpec.ofChange spanJoinsWrong)

/-- 'wainscotlaw08.SpanTells': WHATEVER THE INPUT: true; the input reads as it did. -/
def spanTellsSpec : ChangeSpec := { name := "spanTells", fn := fun _ => fun
  | [d1, d2, d3] => { results := [.lit (.bool true)], args := [d1, d2, d3] }
  | _ => none }
def spanTellsRow : OpenClaim := { program := "ytfeomnkgkppdlaa", sum := "92284ff0a2498db7a35ce7cab9fc06683d3609ca57524e4ed726139d7829aeb2", func := "wainscot/wainscotlaw08.SpanTells", spec := "spanTells", inPlace := ["internal/bytealg.Compare"], unfollowed := true, recurses := true, apart := false }
def SpanTellsSaid : Prop := spanTellsRow.holds Try.pinned (OpenSpec.ofChange spanTellsSpec)

/-- ITS FALSE NEIGHBOUR: 'it returns false'. Refute it at one input. -/
def spanTellsWrong : ChangeSpec := { name := "spanTells", fn := fun _ => fun
  | [d1, d2, d3] => { results := [.lit (.bool false)], args := [d1, d2, d3] }
  | _ => none }
def SpanTellsWrongFalsely : Prop := spanTellsRow.holds Try.pinned (OpenSpec.ofChange spanTellsWrong)

/-- 'wainscotlaw08.SpanKeys': WHATEVER THE INPUT: true; the input reads as it did. -/
def spanKeysSpec : ChangeSpec := { name := "spanKeys", fn := fun _ => fun
  | [d1, d2, d3] => { results := [.lit (.bool true)], args := [d1, d2, d3] }
  | _ => none }
def spanKeysRow : OpenClaim := { program := "ytfeomnkgkppdlaa", sum := "92284ff0a2498db7a35ce7cab9fc06683d3609ca57524e4ed726139d7829aeb2", func := "wainscot/wainscotlaw08.SpanKeys", spec := "spanKeys", inPlace := ["internal/bytealg.Compare"], unfollowed := true, recurses := true, apart := false }
def SpanKeysSaid : Prop := spanKeysRow.holds Try.pinned (OpenSpec.ofChange spanKeysSpec)

/-- ITS FALSE NEIGHBOUR: 'it returns false'. Refute it at one input. -/
def spanKeysWrong : ChangeSpec := { name := "spanKeys", fn := fun _ => fun
  | [d1, d2, d3] => { results := [.lit (.bool false)], args := [d1, d2, d3] }
  | _ => none }
def SpanKeysWrongFalsely : Prop := spanKeysRow.holds Try.pinned (OpenSpec.ofChange spanKeysWrong)

/- THE SECOND FORM. 'bulk': how many values and letters a reading holds, each counted each time it is reached (what is shared counts as often as it is met; a slice's spare places count too). A statement '..UptoSaid' is the law's where the arguments, and the package variables that the reading takes, are together of bulk at most 1048576: NARROWER than '..Said'. Prove '..Said' where nothing that the law and all that it calls make is longer than what came in: it says more and counts as full. Else prove '..UptoSaid'. A law counts once. -/
mutual
def uptoBulk {H : Type} : DataW H → Nat
  | .lit (.string bytes) => bytes.length + 1
  | .lit _ => 1
  | .nil => 1
  | .ptr d => uptoBulk d + 1
  | .slice elems spare => uptoBulkAll elems + uptoBulkAll spare + 1
  | .agg parts => uptoBulkAll parts + 1
  | .iface _ d => uptoBulk d + 1
  | .map entries => uptoBulkEntries entries + 1
  | .held _ => 1
def uptoBulkAll {H : Type} : List (DataW H) → Nat
  | [] => 0
  | d :: r => uptoBulk d + uptoBulkAll r
def uptoBulkEntries {H : Type} : List (Lit × DataW H) → Nat
  | [] => 0
  | x :: r => uptoBulkEntry x + uptoBulkEntries r
def uptoBulkEntry {H : Type} : Lit × DataW H → Nat
  | (.string bytes, d) => bytes.length + uptoBulk d + 1
  | (_, d) => uptoBulk d + 1
 end
def uptoSmall : (H : Type) → List (DataW H) → Bool := fun _ ds => decide (uptoBulkAll ds ≤ 1048576)
def OpenSpec.upto (s : _root_.Go.ChangeSpec) : _root_.Go.OpenSpec := { _root_.Go.OpenSpec.ofChange s with cond := some uptoSmall }

/-- 'wainscotlaw08.SpanClean', WHERE WHAT IT READS IS OF BULK AT MOST 1048576: true; the input reads as it did. -/
def spanCleanUptoRow : OpenClaim := { program := "ytfeomnkgkppdlaa", sum := "92284ff0a2498db7a35ce7cab9fc06683d3609ca57524e4ed726139d7829aeb2", func := "wainscot/wainscotlaw08.SpanClean", spec := "spanClean", inPlace := ["internal/bytealg.Compare"], unfollowed := true, recurses := true, apart := false, narrowed := true }
def SpanCleanUptoSaid : Prop := spanCleanUptoRow.holds Try.pinned (OpenSpec.upto spanCleanSpec)

/-- 'wainscotlaw08.SpanParts', WHERE WHAT IT READS IS OF BULK AT MOST 1048576: true; the input reads as it did. -/
def spanPartsUptoRow : OpenClaim := { program := "ytfeomnkgkppdlaa", sum := "92284ff0a2498db7a35ce7cab9fc06683d3609ca57524e4ed726139d7829aeb2", func := "wainscot/wainscotlaw08.SpanParts", spec := "spanParts", inPlace := ["internal/bytealg.Compare"], unfollowed := true, recurses := true, apart := false, narrowed := true }
def SpanPartsUptoSaid : Prop := spanPartsUptoRow.holds Try.pinned (OpenSpec.upto spanPartsSpec)

/-- 'wainscotlaw08.SpanNone', WHERE WHAT IT READS IS OF BULK AT MOST 1048576: true; the input reads as it did. -/
def spanNoneUptoRow : OpenClaim := { program := "ytfeomnkgkppdlaa", sum := "92284ff0a2498db7a35ce7cab9fc06683d3609ca57524e4ed726139d7829aeb2", func := "wainscot/wainscotlaw08.SpanNone", spec := "spanNone", inPlace := ["internal/bytealg.Compare"], unfollowed := true, recurses := true, apart := false, narrowed := true }
def SpanNoneUptoSaid : Prop := spanNoneUptoRow.holds Try.pinned (OpenSpec.upto spanNoneSpec)

/-- 'wainscotlaw08.SpanBoth', WHERE WHAT IT READS IS OF BULK AT MOST 1048576: true; the input reads as it did. -/
def spanBothUptoRow : OpenClaim := { program := "ytfeomnkgkppdlaa", sum := "92284ff0a2498db7a35ce7cab9fc06683d3609ca57524e4ed726139d7829aeb2", func := "wainscot/wainscotlaw08.SpanBoth", spec := "spanBoth", inPlace := ["internal/bytealg.Compare"], unfollowed := true, recurses := true, apart := false, narrowed := true }
def SpanBothUptoSaid : Prop := spanBothUptoRow.holds Try.pinned (OpenSpec.upto spanBothSpec)

/-- 'wainscotlaw08.SpanJoins', WHERE WHAT IT READS IS OF BULK AT MOST 1048576: true; the input reads as it did. -/
def spanJoinsUptoRow : OpenClaim := { program := "ytfeomnkgkppdlaa", sum := "92284ff0a2498db7a35ce7cab9fc06683d3609ca57524e4ed726139d7829aeb2", func := "wainscot/wainscotlaw08.SpanJoins", spec := "spanJoins", inPlace := ["internal/bytealg.Compare"], unfollowed := true, recurses := true, apart := false, narrowed := true }
def SpanJoinsUptoSaid : Prop := spanJoinsUptoRow.holds Try.pinned (OpenSpec.upto spanJoinsSpec)

/-- 'wainscotlaw08.SpanTells', WHERE WHAT IT READS IS OF BULK AT MOST 1048576: true; the input reads as it did. -/
def spanTellsUptoRow : OpenClaim := { program := "ytfeomnkgkppdlaa", sum := "92284ff0a2498db7a35ce7cab9fc06683d3609ca57524e4ed726139d7829aeb2", func := "wainscot/wainscotlaw08.SpanTells", spec := "spanTells", inPlace := ["internal/bytealg.Compare"], unfollowed := true, recurses := true, apart := false, narrowed := true }
def SpanTellsUptoSaid : Prop := spanTellsUptoRow.holds Try.pinned (OpenSpec.upto spanTellsSpec)

/-- 'wainscotlaw08.SpanKeys', WHERE WHAT IT READS IS OF BULK AT MOST 1048576: true; the input reads as it did. -/
def spanKeysUptoRow : OpenClaim := { program := "ytfeomnkgkppdlaa", sum := "92284ff0a2498db7a35ce7cab9fc06683d3609ca57524e4ed726139d7829aeb2", func := "wainscot/wainscotlaw08.SpanKeys", spec := "spanKeys", inPlace := ["internal/bytealg.Compare"], unfollowed := true, recurses := true, apart := false, narrowed := true }
def SpanKeysUptoSaid : Prop := spanKeysUptoRow.holds Try.pinned (OpenSpec.upto spanKeysSpec)

end Rows
end Go.Proofs.Ytfeomnkgkppdlaa
