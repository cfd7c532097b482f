/-
  No cell of these rows narrows 'for every input' (looked for: loops, veiled, ifaces, maps, wideKeys, modest, calm, conditions, laid).
  DERIVED. THE GIVEN ROWS OF THIS SEAT. 7 by the template 'for every input the law returns true; each argument reads behind the call as it read before'; 0 by the template 'total and deterministic' (their statements: YtedcpmkfanlicaaTotals.lean).
  GIVEN WITH THE SEED: the statements are not yours to turn. If you find one false, say at which input.
  Laid BY PROGRAM, IN A SANDBOX (cutbox-rows.mjs): the forced cells as the released guide's own fill.sh prints them over the translation 0252cdee607eaa90… (all of the seat's roots in one cut). By AI agents, Wed Nov 11 2026. No macro, syntax, notation, axiom, sorry.
-/
import Derived.Test.YtedcpmkfanlicaaChecked
import GoSem.Claim
import GoSem.ClaimJoined
import GoSem.ClaimMapViews
import Derived.JoinedTies
import Derived.KernelRfl
namespace Go.Proofs.Ytedcpmkfanlicaa
/- THE CELL 'sum', in the pinned program and in every row, IS THE sha256 OF THE DUMP (.gsa) THAT YtedcpmkfanlicaaProg.lean LOADS. Nothing in Lean hashes anything: it is a label: what it is worth is what the hold of that sum in a sandbox is worth. -/
noncomputable def Try.pinned : Pinned := { name := "ytedcpmkfanlicaa", sum := "0252cdee607eaa901697aa24362747b320e545b3756ce1e790e1a408ef1c6e0e", checked := Try.checked }
namespace Rows
def none {H : Type} : Left H := { results := [], args := [] }

/-- 'wainscotlaw02.DeviceAgain': WHATEVER THE INPUT: true; the input reads as it did. -/
def deviceAgainSpec : ChangeSpec := { name := "deviceAgain", fn := fun _ => fun
  | [d1, d2, d3, d4] => { results := [.lit (.bool true)], args := [d1, d2, d3, d4] }
  | _ => none }
def deviceAgainRow : OpenClaim := { program := "ytedcpmkfanlicaa", sum := "0252cdee607eaa901697aa24362747b320e545b3756ce1e790e1a408ef1c6e0e", func := "wainscot/wainscotlaw02.DeviceAgain", spec := "deviceAgain", inPlace := ["maps.clone"], unfollowed := true, recurses := true, apart := false }
def DeviceAgainSaid : Prop := deviceAgainRow.holds Try.pinned (OpenSpec.ofChange deviceAgainSpec)

/-- ITS FALSE NEIGHBOUR: 'it returns false'. Refute it at one input. -/
def deviceAgainWrong : ChangeSpec := { name := "deviceAgain", fn := fun _ => fun
  | [d1, d2, d3, d4] => { results := [.lit (.bool false)], args := [d1, d2, d3, d4] }
  | _ => none }
def DeviceAgainWrongFalsely : Prop := deviceAgainRow.holds Try.pinned (OpenSpec.ofChange deviceAgainWrong)

/-- 'wainscotlaw02.DeviceFar': WHATEVER THE INPUT: true; the input reads as it did. -/
def deviceFarSpec : ChangeSpec := { name := "deviceFar", fn := fun _ => fun
  | [d1, d2] => { results := [.lit (.bool true)], args := [d1, d2] }
  | _ => none }
def deviceFarRow : OpenClaim := { program := "ytedcpmkfanlicaa", sum := "0252cdee607eaa901697aa24362747b320e545b3756ce1e790e1a408ef1c6e0e", func := "wainscot/wainscotlaw02.DeviceFar", spec := "deviceFar", unfollowed := true, recurses := true, apart := false }
def DeviceFarSaid : Prop := deviceFarRow.holds Try.pinned (OpenSpec.ofChange deviceFarSpec)

/-- ITS FALSE NEIGHBOUR: 'it returns false'. Refute it at one input. -/
def deviceFarWrong : ChangeSpec := { name := "deviceFar", fn := fun _ => fun
  | [d1, d2] => { results := [.lit (.bool false)], args := [d1, d2] }
  | _ => none }
def DeviceFarWrongFalsely : Prop := deviceFarRow.holds Try.pinned (OpenSpec.ofChange deviceFarWrong)

/-- 'wainscotlaw02.DeviceCrash': WHATEVER THE INPUT: true; the input reads as it did. -/
def deviceCrashSpec : ChangeSpec := { name := "deviceCrash", fn := fun _ => fun
  | [d1, d2, d3, d4] => { results := [.lit (.bool true)], args := [d1, d2, d3, d4] }
  | _ => none }
def deviceCrashRow : OpenClaim := { program := "ytedcpmkfanlicaa", sum := "0252cdee607eaa901697aa24362747b320e545b3756ce1e790e1a408ef1c6e0e", func := "wainscot/wainscotlaw02.DeviceCrash", spec := "deviceCrash", unfollowed := true, recurses := true, apart := false }
def DeviceCrashSaid : Prop := deviceCrashRow.holds Try.pinned (OpenSpec.ofChange deviceCrashSpec)

/-- ITS FALSE NEIGHBOUR: 'it returns false'. Refute it at one input. -/
def deviceCrashWrong : ChangeSpec := { name := "deviceCrash", fn := fun _ => fun
  | [d1, d2, d3, d4] => { results := [.lit (.bool false)], args := [d1, d2, d3, d4] }
  | _ => none }
def DeviceCrashWrongFalsely : Prop := deviceCrashRow.holds Try.pinned (OpenSpec.ofChange deviceCrashWrong)

/-- 'wainscotlaw02.DeviceArmed': WHATEVER THE INPUT: true; the input reads as it did. -/
def deviceArmedSpec : ChangeSpec := { name := "deviceArmed", fn := fun _ => fun
  | [d1, d2, d3, d4, d5] => { results := [.lit (.bool true)], args := [d1, d2, d3, d4, d5] }
  | _ => none }
def deviceArmedRow : OpenClaim := { program := "ytedcpmkfanlicaa", sum := "0252cdee607eaa901697aa24362747b320e545b3756ce1e790e1a408ef1c6e0e", func := "wainscot/wainscotlaw02.DeviceArmed", spec := "deviceArmed", unfollowed := true, recurses := true, apart := false }
def DeviceArmedSaid : Prop := deviceArmedRow.holds Try.pinned (OpenSpec.ofChange deviceArmedSpec)

/-- ITS FALSE NEIGHBOUR: 'it returns false'. Refute it at one input. -/
def deviceArmedWrong : ChangeSpec := { name := "deviceArmed", fn := fun _ => fun
  | [d1, d2, d3, d4, d5] => { results := [.lit (.bool false)], args := [d1, d2, d3, d4, d5] }
  | _ => none }
def DeviceArmedWrongFalsely : Prop := deviceArmedRow.holds Try.pinned (OpenSpec.ofChange deviceArmedWrong)

/-- 'wainscotlaw02.DeviceLasts': WHATEVER THE INPUT: true; the input reads as it did. -/
def deviceLastsSpec : ChangeSpec := { name := "deviceLasts", fn := fun _ => fun
  | [d1, d2, d3] => { results := [.lit (.bool true)], args := [d1, d2, d3] }
  | _ => none }
def deviceLastsRow : OpenClaim := { program := "ytedcpmkfanlicaa", sum := "0252cdee607eaa901697aa24362747b320e545b3756ce1e790e1a408ef1c6e0e", func := "wainscot/wainscotlaw02.DeviceLasts", spec := "deviceLasts", unfollowed := true, recurses := true, apart := false }
def DeviceLastsSaid : Prop := deviceLastsRow.holds Try.pinned (OpenSpec.ofChange deviceLastsSpec)

/-- ITS FALSE NEIGHBOUR: 'it returns false'. Refute it at one input. -/
def deviceLastsWrong : ChangeSpec := { name := "deviceLasts", fn := fun _ => fun
  | [d1, d2, d3] => { results := [.lit (.bool false)], args := [d1, d2, d3] }
  | _ => none }
def DeviceLastsWrongFalsely : Prop := deviceLastsRow.holds Try.pinned (OpenSpec.ofChange deviceLastsWrong)

/-- 'wainscotlaw02.DeviceEnds': WHATEVER THE INPUT: true; the input reads as it did. -/
def deviceEndsSpec : ChangeSpec := { name := "deviceEnds", fn := fun _ => fun
  | [d1, d2, d3, d4] => { results := [.lit (.bool true)], args := [d1, d2, d3, d4] }
  | _ => none }
def deviceEndsRow : OpenClaim := { program := "ytedcpmkfanlicaa", sum := "0252cdee607eaa901697aa24362747b320e545b3756ce1e790e1a408ef1c6e0e", func := "wainscot/wainscotlaw02.DeviceEnds", spec := "deviceEnds", inPlace := ["maps.clone"], unfollowed := true, recurses := true, apart := false }
def DeviceEndsSaid : Prop := deviceEndsRow.holds Try.pinned (OpenSpec.ofChange deviceEndsSpec)

/-- ITS FALSE NEIGHBOUR: 'it returns false'. Refute it at one input. -/
def deviceEndsWrong : ChangeSpec := { name := "deviceEnds", fn := fun _ => fun
  | [d1, d2, d3, d4] => { results := [.lit (.bool false)], args := [d1, d2, d3, d4] }
  | _ => none }
def DeviceEndsWrongFalsely : Prop := deviceEndsRow.holds Try.pinned (OpenSpec.ofChange deviceEndsWrong)

/-- 'wainscotlaw02.DevicePlays': WHATEVER THE INPUT: true; the input reads as it did. -/
def devicePlaysSpec : ChangeSpec := { name := "devicePlays", fn := fun _ => fun
  | [d1, d2] => { results := [.lit (.bool true)], args := [d1, d2] }
  | _ => none }
def devicePlaysRow : OpenClaim := { program := "ytedcpmkfanlicaa", sum := "0252cdee607eaa901697aa24362747b320e545b3756ce1e790e1a408ef1c6e0e", func := "wainscot/wainscotlaw02.DevicePlays", spec := "devicePlays", inPlace := ["maps.clone"], unfollowed := true, recurses := true, apart := false }
def DevicePlaysSaid : Prop := devicePlaysRow.holds Try.pinned (OpenSpec.ofChange devicePlaysSpec)

/-- ITS FALSE NEIGHBOUR: 'it returns false'. Refute it at one input. -/
def devicePlaysWrong : ChangeSpec := { name := "devicePlays", fn := fun _ => fun
  | [d1, d2] => { results := [.lit (.bool false)], args := [d1, d2] }
  | _ => none }
def DevicePlaysWrongFalsely : Prop := devicePlaysRow.holds Try.pinned (OpenSpec.ofChange devicePlaysWrong)

/- THE SECOND FORM. 'bulk': how many values and letters a reading holds, each counted each time it is reached (what is shared counts as often as it is met; a slice's spare places count too). A statement '..UptoSaid' is the law's where the arguments, and the package variables that the reading takes, are together of bulk at most 1048576: NARROWER than '..Said'. Prove '..Said' where nothing that the law and all that it calls make is longer than what came in: it says more and counts as full. Else prove '..UptoSaid'. A law counts once. -/
mutual
def uptoBulk {H : Type} : DataW H → Nat
  | .lit (.string bytes) => bytes.length + 1
  | .lit _ => 1
  | .nil => 1
  | .ptr d => uptoBulk d + 1
  | .slice elems spare => uptoBulkAll elems + uptoBulkAll spare + 1
  | .agg parts => uptoBulkAll parts + 1
  | .iface _ d => uptoBulk d + 1
  | .map entries => uptoBulkEntries entries + 1
  | .held _ => 1
def uptoBulkAll {H : Type} : List (DataW H) → Nat
  | [] => 0
  | d :: r => uptoBulk d + uptoBulkAll r
def uptoBulkEntries {H : Type} : List (Lit × DataW H) → Nat
  | [] => 0
  | x :: r => uptoBulkEntry x + uptoBulkEntries r
def uptoBulkEntry {H : Type} : Lit × DataW H → Nat
  | (.string bytes, d) => bytes.length + uptoBulk d + 1
  | (_, d) => uptoBulk d + 1
 end
def uptoSmall : (H : Type) → List (DataW H) → Bool := fun _ ds => decide (uptoBulkAll ds ≤ 1048576)
def OpenSpec.upto (s : _root_.Go.ChangeSpec) : _root_.Go.OpenSpec := { _root_.Go.OpenSpec.ofChange s with cond := some uptoSmall }

/-- 'wainscotlaw02.DeviceAgain', WHERE WHAT IT READS IS OF BULK AT MOST 1048576: true; the input reads as it did. -/
def deviceAgainUptoRow : OpenClaim := { program := "ytedcpmkfanlicaa", sum := "0252cdee607eaa901697aa24362747b320e545b3756ce1e790e1a408ef1c6e0e", func := "wainscot/wainscotlaw02.DeviceAgain", spec := "deviceAgain", inPlace := ["maps.clone"], unfollowed := true, recurses := true, apart := false, narrowed := true }
def DeviceAgainUptoSaid : Prop := deviceAgainUptoRow.holds Try.pinned (OpenSpec.upto deviceAgainSpec)

/-- 'wainscotlaw02.DeviceFar', WHERE WHAT IT READS IS OF BULK AT MOST 1048576: true; the input reads as it did. -/
def deviceFarUptoRow : OpenClaim := { program := "ytedcpmkfanlicaa", sum := "0252cdee607eaa901697aa24362747b320e545b3756ce1e790e1a408ef1c6e0e", func := "wainscot/wainscotlaw02.DeviceFar", spec := "deviceFar", unfollowed := true, recurses := true, apart := false, narrowed := true }
def DeviceFarUptoSaid : Prop := deviceFarUptoRow.holds Try.pinned (OpenSpec.upto deviceFarSpec)

/-- 'wainscotlaw02.DeviceCrash', WHERE WHAT IT READS IS OF BULK AT MOST 1048576: true; the input reads as it did. -/
def deviceCrashUptoRow : OpenClaim := { program := "ytedcpmkfanlicaa", sum := "0252cdee607eaa901697aa24362747b320e545b3756ce1e790e1a408ef1c6e0e", func := "wainscot/wainscotlaw02.DeviceCrash", spec := "deviceCrash", unfollowed := true, recurses := true, apart := false, narrowed := true }
def DeviceCrashUptoSaid : Prop := deviceCrashUptoRow.holds Try.pinned (OpenSpec.upto deviceCrashSpec)

/-- 'wainscotlaw02.DeviceArmed', WHERE WHAT IT READS IS OF BULK AT MOST 1048576: true; the input reads as it did. -/
def deviceArmedUptoRow : OpenClaim := { program := "ytedcpmkfanlicaa", sum := "0252cdee607eaa901697aa24362747b320e545b3756ce1e790e1a408ef1c6e0e", func := "wainscot/wainscotlaw02.DeviceArmed", spec := "deviceArmed", unfollowed := true, recurses := true, apart := false, narrowed := true }
def DeviceArmedUptoSaid : Prop := deviceArmedUptoRow.holds Try.pinned (OpenSpec.upto deviceArmedSpec)

/-- 'wainscotlaw02.DeviceLasts', WHERE WHAT IT READS IS OF BULK AT MOST 1048576: true; the input reads as it did. -/
def deviceLastsUptoRow : OpenClaim := { program := "ytedcpmkfanlicaa", sum := "0252cdee607eaa901697aa24362747b320e545b3756ce1e790e1a408ef1c6e0e", func := "wainscot/wainscotlaw02.DeviceLasts", spec := "deviceLasts", unfollowed := true, recurses := true, apart := false, narrowed := true }
def DeviceLastsUptoSaid : Prop := deviceLastsUptoRow.holds Try.pinned (OpenSpec.upto deviceLastsSpec)

/-- 'wainscotlaw02.DeviceEnds', WHERE WHAT IT READS IS OF BULK AT MOST 1048576: true; the input reads as it did. -/
def deviceEndsUptoRow : OpenClaim := { program := "ytedcpmkfanlicaa", sum := "0252cdee607eaa901697aa24362747b320e545b3756ce1e790e1a408ef1c6e0e", func := "wainscot/wainscotlaw02.DeviceEnds", spec := "deviceEnds", inPlace := ["maps.clone"], unfollowed := true, recurses := true, apart := false, narrowed := true }
def DeviceEndsUptoSaid : Prop := deviceEndsUptoRow.holds Try.pinned (OpenSpec.upto deviceEndsSpec)

/-- 'wainscotlaw02.DevicePlays', WHERE WHAT IT READS IS OF BULK AT MOST 1048576: true; the input reads as it did. -/
def devicePlaysUptoRow : OpenClaim := { program := "ytedcpmkfanlicaa", sum := "0252cdee607eaa901697aa24362747b320e545b3756ce1e790e1a408ef1c6e0e", func := "wainscot/wainscotlaw02.DevicePlays", spec := "devicePlays", inPlace := ["maps.clone"], unfollowed := true, recurses := true, apart := false, narrowed := true }
def DevicePlaysUptoSaid : Prop := devicePlaysUptoRow.holds Try.pinned (OpenSpec.upto devicePlaysSpec)

end Rows
end Go.Proofs.Ytedcpmkfanlicaa
