/-
  No cell of these rows narrows 'for every input' (looked for: loops, veiled, ifaces, maps, wideKeys, modest, calm, conditions, laid).
  DERIVED. THE GIVEN ROWS OF THIS SEAT. 4 by the template 'for every input the law returns true; each argument reads behind the call as it read before'; 0 by the template 'total and deterministic' (their statements: YtgkjckfkbpijpaaTotals.lean).
  GIVEN WITH THE SEED: the statements are not yours to turn. If you find one false, say at which input.
  Laid BY PROGRAM, IN A SANDBOX (cutbox-rows.mjs): the forced cells as the released guide's own fill.sh prints them over the translation 5e4878f5ea2cb28d… (all of the seat's roots in one cut). By AI agents, Wed Nov 11 2026. No macro, syntax, notation, axiom, sorry.
-/
import Derived.Test.YtgkjckfkbpijpaaChecked
import GoSem.Claim
import GoSem.ClaimJoined
import GoSem.ClaimMapViews
import Derived.JoinedTies
import Derived.KernelRfl
namespace Go.Proofs.Ytgkjckfkbpijpaa
/- THE CELL 'sum', in the pinned program and in every row, IS THE sha256 OF THE DUMP (.gsa) THAT YtgkjckfkbpijpaaProg.lean LOADS. Nothing in Lean hashes anything: it is a label: what it is worth is what the hold of that sum in a sandbox is worth. -/
noncomputable def Try.pinned : Pinned := { name := "ytgkjckfkbpijpaa", sum := "5e4878f5ea2cb28d583175b38fb583d24d2c64a98ac8a70e0642fa42bb75aee4", checked := Try.checked }
namespace Rows
def none {H : Type} : Left H := { results := [], args := [] }

/-- 'wainscotlaw17.LogCause': WHATEVER THE INPUT: true; the input reads as it did. -/
def logCauseSpec : ChangeSpec := { name := "logCause", fn := fun _ => fun
  | [d1, d2, d3] => { results := [.lit (.bool true)], args := [d1, d2, d3] }
  | _ => none }
def logCauseRow : OpenClaim := { program := "ytgkjckfkbpijpaa", sum := "5e4878f5ea2cb28d583175b38fb583d24d2c64a98ac8a70e0642fa42bb75aee4", func := "wainscot/wainscotlaw17.LogCause", spec := "logCause", inPlace := ["internal/bytealg.Compare"], unfollowed := true, recurses := true, apart := false }
def LogCauseSaid : Prop := logCauseRow.holds Try.pinned (OpenSpec.ofChange logCauseSpec)

/-- ITS FALSE NEIGHBOUR: 'it returns false'. Refute it at one input. -/
def logCauseWrong : ChangeSpec := { name := "logCause", fn := fun _ => fun
  | [d1, d2, d3] => { results := [.lit (.bool false)], args := [d1, d2, d3] }
  | _ => none }
def LogCauseWrongFalsely : Prop := logCauseRow.holds Try.pinned (OpenSpec.ofChange logCauseWrong)

/-- 'wainscotlaw17.LogPrunes': WHATEVER THE INPUT: true; the input reads as it did. -/
def logPrunesSpec : ChangeSpec := { name := "logPrunes", fn := fun _ => fun
  | [d1, d2, d3] => { results := [.lit (.bool true)], args := [d1, d2, d3] }
  | _ => none }
def logPrunesRow : OpenClaim := { program := "ytgkjckfkbpijpaa", sum := "5e4878f5ea2cb28d583175b38fb583d24d2c64a98ac8a70e0642fa42bb75aee4", func := "wainscot/wainscotlaw17.LogPrunes", spec := "logPrunes", inPlace := ["internal/bytealg.Compare"], unfollowed := true, recurses := true, apart := false }
def LogPrunesSaid : Prop := logPrunesRow.holds Try.pinned (OpenSpec.ofChange logPrunesSpec)

/-- ITS FALSE NEIGHBOUR: 'it returns false'. Refute it at one input. -/
def logPrunesWrong : ChangeSpec := { name := "logPrunes", fn := fun _ => fun
  | [d1, d2, d3] => { results := [.lit (.bool false)], args := [d1, d2, d3] }
  | _ => none }
def LogPrunesWrongFalsely : Prop := logPrunesRow.holds Try.pinned (OpenSpec.ofChange logPrunesWrong)

/-- 'wainscotlaw17.LogUnion': WHATEVER THE INPUT: true; the input reads as it did. -/
def logUnionSpec : ChangeSpec := { name := "logUnion", fn := fun _ => fun
  | [d1, d2, d3, d4] => { results := [.lit (.bool true)], args := [d1, d2, d3, d4] }
  | _ => none }
def logUnionRow : OpenClaim := { program := "ytgkjckfkbpijpaa", sum := "5e4878f5ea2cb28d583175b38fb583d24d2c64a98ac8a70e0642fa42bb75aee4", func := "wainscot/wainscotlaw17.LogUnion", spec := "logUnion", inPlace := ["internal/bytealg.Compare"], unfollowed := true, recurses := true, apart := false }
def LogUnionSaid : Prop := logUnionRow.holds Try.pinned (OpenSpec.ofChange logUnionSpec)

/-- ITS FALSE NEIGHBOUR: 'it returns false'. Refute it at one input. -/
def logUnionWrong : ChangeSpec := { name := "logUnion", fn := fun _ => fun
  | [d1, d2, d3, d4] => { results := [.lit (.bool false)], args := [d1, d2, d3, d4] }
  | _ => none }
def LogUnionWrongFalsely : Prop := logUnionRow.holds Try.pinned (OpenSpec.ofChange logUnionWrong)

/-- 'wainscotlaw17.LogSplits': WHATEVER THE INPUT: true; the input reads as it did. -/
def logSplitsSpec : ChangeSpec := { name := "logSplits", fn := fun _ => fun
  | [d1, d2, d3, d4] => { results := [.lit (.bool true)], args := [d1, d2, d3, d4] }
  | _ => none }
def logSplitsRow : OpenClaim := { program := "ytgkjckfkbpijpaa", sum := "5e4878f5ea2cb28d583175b38fb583d24d2c64a98ac8a70e0642fa42bb75aee4", func := "wainscot/wainscotlaw17.LogSplits", spec := "logSplits", inPlace := ["internal/bytealg.Compare"], unfollowed := true, recurses := true, apart := false }
def LogSplitsSaid : Prop := logSplitsRow.holds Try.pinned (OpenSpec.ofChange logSplitsSpec)

/-- ITS FALSE NEIGHBOUR: 'it returns false'. Refute it at one input. -/
def logSplitsWrong : ChangeSpec := { name := "logSplits", fn := fun _ => fun
  | [d1, d2, d3, d4] => { results := [.lit (.bool false)], args := [d1, d2, d3, d4] }
  | _ => none }
def LogSplitsWrongFalsely : Prop := logSplitsRow.holds Try.pinned (OpenSpec.ofChange logSplitsWrong)

/- THE SECOND FORM. 'bulk': how many values and letters a reading holds, each counted each time it is reached (what is shared counts as often as it is met; a slice's spare places count too). A statement '..UptoSaid' is the law's where the arguments, and the package variables that the reading takes, are together of bulk at most 1048576: NARROWER than '..Said'. Prove '..Said' where nothing that the law and all that it calls make is longer than what came in: it says more and counts as full. Else prove '..UptoSaid'. A law counts once. -/
mutual
def uptoBulk {H : Type} : DataW H → Nat
  | .lit (.string bytes) => bytes.length + 1
  | .lit _ => 1
  | .nil => 1
  | .ptr d => uptoBulk d + 1
  | .slice elems spare => uptoBulkAll elems + uptoBulkAll spare + 1
  | .agg parts => uptoBulkAll parts + 1
  | .iface _ d => uptoBulk d + 1
  | .map entries => uptoBulkEntries entries + 1
  | .held _ => 1
def uptoBulkAll {H : Type} : List (DataW H) → Nat
  | [] => 0
  | d :: r => uptoBulk d + uptoBulkAll r
def uptoBulkEntries {H : Type} : List (Lit × DataW H) → Nat
  | [] => 0
  | x :: r => uptoBulkEntry x + uptoBulkEntries r
def uptoBulkEntry {H : Type} : Lit × DataW H → Nat
  | (.string bytes, d) => bytes.length + uptoBulk d + 1
  | (_, d) => uptoBulk d + 1
 end
def uptoSmall : (H : Type) → List (DataW H) → Bool := fun _ ds => decide (uptoBulkAll ds ≤ 1048576)
def OpenSpec.upto (s : _root_.Go.ChangeSpec) : _root_.Go.OpenSpec := { _root_.Go.OpenSpec.ofChange s with cond := some uptoSmall }

/-- 'wainscotlaw17.LogCause', WHERE WHAT IT READS IS OF BULK AT MOST 1048576: true; the input reads as it did. -/
def logCauseUptoRow : OpenClaim := { program := "ytgkjckfkbpijpaa", sum := "5e4878f5ea2cb28d583175b38fb583d24d2c64a98ac8a70e0642fa42bb75aee4", func := "wainscot/wainscotlaw17.LogCause", spec := "logCause", inPlace := ["internal/bytealg.Compare"], unfollowed := true, recurses := true, apart := false, narrowed := true }
def LogCauseUptoSaid : Prop := logCauseUptoRow.holds Try.pinned (OpenSpec.upto logCauseSpec)

/-- 'wainscotlaw17.LogPrunes', WHERE WHAT IT READS IS OF BULK AT MOST 1048576: true; the input reads as it did. -/
def logPrunesUptoRow : OpenClaim := { program := "ytgkjckfkbpijpaa", sum := "5e4878f5ea2cb28d583175b38fb583d24d2c64a98ac8a70e0642fa42bb75aee4", func := "wainscot/wainscotlaw17.LogPrunes", spec := "logPrunes", inPlace := ["internal/bytealg.Compare"], unfollowed := true, recurses := true, apart := false, narrowed := true }
def LogPrunesUptoSaid : Prop := logPrunesUptoRow.holds Try.pinned (OpenSpec.upto logPrunesSpec)

/-- 'wainscotlaw17.LogUnion', WHERE WHAT IT READS IS OF BULK AT MOST 1048576: true; the input reads as it did. -/
def logUnionUptoRow : OpenClaim := { program := "ytgkjckfkbpijpaa", sum := "5e4878f5ea2cb28d583175b38fb583d24d2c64a98ac8a70e0642fa42bb75aee4", func := "wainscot/wainscotlaw17.LogUnion", spec := "logUnion", inPlace := ["internal/bytealg.Compare"], unfollowed := true, recurses := true, apart := false, narrowed := true }
def LogUnionUptoSaid : Prop := logUnionUptoRow.holds Try.pinned (OpenSpec.upto logUnionSpec)

/-- 'wainscotlaw17.LogSplits', WHERE WHAT IT READS IS OF BULK AT MOST 1048576: true; the input reads as it did. -/
def logSplitsUptoRow : OpenClaim := { program := "ytgkjckfkbpijpaa", sum := "5e4878f5ea2cb28d583175b38fb583d24d2c64a98ac8a70e0642fa42bb75aee4", func := "wainscot/wainscotlaw17.LogSplits", spec := "logSplits", inPlace := ["internal/bytealg.Compare"], unfollowed := true, recurses := true, apart := false, narrowed := true }
def LogSplitsUptoSaid : Prop := logSplitsUptoRow.holds Try.pinned (OpenSpec.upto logSplitsSpec)

end Rows
end Go.Proofs.Ytgkjckfkbpijpaa
