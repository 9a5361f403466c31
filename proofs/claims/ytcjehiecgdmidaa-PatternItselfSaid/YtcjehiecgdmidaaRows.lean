/-
  No cell of these rows narrows 'for every input' (looked for: loops, veiled, ifaces, maps, wideKeys, modest, calm, conditions, laid).
  DERIVED. THE GIVEN ROWS OF THIS SEAT. 5 by the template 'for every input the law returns true; each argument reads behind the call as it read before'; 0 by the template 'total and deterministic' (their statements: YtcjehiecgdmidaaTotals.lean).
  GIVEN WITH THE SEED: the statements are not yours to turn. If you find one false, say at which input.
  Laid BY PROGRAM, IN A SANDBOX (cutbox-rows.mjs): the forced cells as the released guide's own fill.sh prints them over the translation 8adedaf3c0b2676b… (all of the seat's roots in one cut). By AI agents, Wed Nov 11 2026. No macro, syntax, notation, axiom, sorry.
-/
import Derived.Test.YtcjehiecgdmidaaChecked
import GoSem.Claim
import GoSem.ClaimJoined
import GoSem.ClaimMapViews
import Derived.JoinedTies
import Derived.KernelRfl
namespace Go.Proofs.Ytcjehiecgdmidaa
/- THE CELL 'sum', in the pinned program and in every row, IS THE sha256 OF THE DUMP (.gsa) THAT YtcjehiecgdmidaaProg.lean LOADS. Nothing in Lean hashes anything: it is a label: what it is worth is what the hold of that sum in a sandbox is worth. -/
noncomputable def Try.pinned : Pinned := { name := "ytcjehiecgdmidaa", sum := "8adedaf3c0b2676bbae657da6823bd03adc3dac91dc6f47ffba10bb387ec30e3", checked := Try.checked }
namespace Rows
def none {H : Type} : Left H := { results := [], args := [] }

/-- 'wavestorelaw20.PatternPrefix': WHATEVER THE INPUT: true; the input reads as it did. -/
def patternPrefixSpec : ChangeSpec := { name := "patternPrefix", fn := fun _ => fun
  | [d1, d2] => { results := [.lit (.bool true)], args := [d1, d2] }
  | _ => none }
def patternPrefixRow : OpenClaim := { program := "ytcjehiecgdmidaa", sum := "8adedaf3c0b2676bbae657da6823bd03adc3dac91dc6f47ffba10bb387ec30e3", func := "wavestore/wavestorelaw20.PatternPrefix", spec := "patternPrefix", inPlace := ["internal/bytealg.IndexByteString", "internal/bytealg.IndexString"], unfollowed := true, recurses := true, named := ["internal/bytealg.MaxLen"], apart := false }
def PatternPrefixSaid : Prop := patternPrefixRow.holds Try.pinned (OpenSpec.ofChange patternPrefixSpec)

/-- ITS FALSE NEIGHBOUR: 'it returns false'. Refute it at one input. -/
def patternPrefixWrong : ChangeSpec := { name := "patternPrefix", fn := fun _ => fun
  | [d1, d2] => { results := [.lit (.bool false)], args := [d1, d2] }
  | _ => none }
def PatternPrefixWrongFalsely : Prop := patternPrefixRow.holds Try.pinned (OpenSpec.ofChange patternPrefixWrong)

/-- 'wavestorelaw20.PatternWider': WHATEVER THE INPUT: true; the input reads as it did. -/
def patternWiderSpec : ChangeSpec := { name := "patternWider", fn := fun _ => fun
  | [d1, d2, d3] => { results := [.lit (.bool true)], args := [d1, d2, d3] }
  | _ => none }
def patternWiderRow : OpenClaim := { program := "ytcjehiecgdmidaa", sum := "8adedaf3c0b2676bbae657da6823bd03adc3dac91dc6f47ffba10bb387ec30e3", func := "wavestore/wavestorelaw20.PatternWider", spec := "patternWider", inPlace := ["internal/bytealg.IndexByteString", "internal/bytealg.IndexString"], unfollowed := true, recurses := true, named := ["internal/bytealg.MaxLen"], apart := false }
def PatternWiderSaid : Prop := patternWiderRow.holds Try.pinned (OpenSpec.ofChange patternWiderSpec)

/-- ITS FALSE NEIGHBOUR: 'it returns false'. Refute it at one input. -/
def patternWiderWrong : ChangeSpec := { name := "patternWider", fn := fun _ => fun
  | [d1, d2, d3] => { results := [.lit (.bool false)], args := [d1, d2, d3] }
  | _ => none }
def PatternWiderWrongFalsely : Prop := patternWiderRow.holds Try.pinned (OpenSpec.ofChange patternWiderWrong)

/-- 'wavestorelaw20.PatternJoined': WHATEVER THE INPUT: true; the input reads as it did. -/
def patternJoinedSpec : ChangeSpec := { name := "patternJoined", fn := fun _ => fun
  | [d1, d2, d3] => { results := [.lit (.bool true)], args := [d1, d2, d3] }
  | _ => none }
def patternJoinedRow : OpenClaim := { program := "ytcjehiecgdmidaa", sum := "8adedaf3c0b2676bbae657da6823bd03adc3dac91dc6f47ffba10bb387ec30e3", func := "wavestore/wavestorelaw20.PatternJoined", spec := "patternJoined", inPlace := ["internal/bytealg.IndexByteString", "internal/bytealg.IndexString"], unfollowed := true, recurses := true, named := ["internal/bytealg.MaxLen"], apart := false }
def PatternJoinedSaid : Prop := patternJoinedRow.holds Try.pinned (OpenSpec.ofChange patternJoinedSpec)

/-- ITS FALSE NEIGHBOUR: 'it returns false'. Refute it at one input. -/
def patternJoinedWrong : ChangeSpec := { name := "patternJoined", fn := fun _ => fun
  | [d1, d2, d3] => { results := [.lit (.bool false)], args := [d1, d2, d3] }
  | _ => none }
def PatternJoinedWrongFalsely : Prop := patternJoinedRow.holds Try.pinned (OpenSpec.ofChange patternJoinedWrong)

/-- 'wavestorelaw20.PatternSets': WHATEVER THE INPUT: true; the input reads as it did. -/
def patternSetsSpec : ChangeSpec := { name := "patternSets", fn := fun _ => fun
  | [d1, d2] => { results := [.lit (.bool true)], args := [d1, d2] }
  | _ => none }
def patternSetsRow : OpenClaim := { program := "ytcjehiecgdmidaa", sum := "8adedaf3c0b2676bbae657da6823bd03adc3dac91dc6f47ffba10bb387ec30e3", func := "wavestore/wavestorelaw20.PatternSets", spec := "patternSets", inPlace := ["internal/bytealg.IndexByteString", "internal/bytealg.IndexString"], unfollowed := true, recurses := true, named := ["internal/bytealg.MaxLen"], apart := false }
def PatternSetsSaid : Prop := patternSetsRow.holds Try.pinned (OpenSpec.ofChange patternSetsSpec)

/-- ITS FALSE NEIGHBOUR: 'it returns false'. Refute it at one input. -/
def patternSetsWrong : ChangeSpec := { name := "patternSets", fn := fun _ => fun
  | [d1, d2] => { results := [.lit (.bool false)], args := [d1, d2] }
  | _ => none }
def PatternSetsWrongFalsely : Prop := patternSetsRow.holds Try.pinned (OpenSpec.ofChange patternSetsWrong)

/-- 'wavestorelaw20.PatternItself': WHATEVER THE INPUT: true; the input reads as it did. -/
def patternItselfSpec : ChangeSpec := { name := "patternItself", fn := fun _ => fun
  | [d1, d2] => { results := [.lit (.bool true)], args := [d1, d2] }
  | _ => none }
def patternItselfRow : OpenClaim := { program := "ytcjehiecgdmidaa", sum := "8adedaf3c0b2676bbae657da6823bd03adc3dac91dc6f47ffba10bb387ec30e3", func := "wavestore/wavestorelaw20.PatternItself", spec := "patternItself", inPlace := ["internal/bytealg.IndexByteString", "internal/bytealg.IndexString"], unfollowed := true, recurses := true, named := ["internal/bytealg.MaxLen"], apart := false }
def PatternItselfSaid : Prop := patternItselfRow.holds Try.pinned (OpenSpec.ofChange patternItselfSpec)

/-- ITS FALSE NEIGHBOUR: 'it returns false'. Refute it at one input. -/
def patternItselfWrong : ChangeSpec := { name := "patternItself", fn := fun _ => fun
  | [d1, d2] => { results := [.lit (.bool false)], args := [d1, d2] }
  | _ => none }
def PatternItselfWrongFalsely : Prop := patternItselfRow.holds Try.pinned (OpenSpec.ofChange patternItselfWrong)

/- THE SECOND FORM. 'bulk': how many values and letters a reading holds, each counted each time it is reached (what is shared counts as often as it is met; a slice's spare places count too). A statement '..UptoSaid' is the law's where the arguments, and the package variables that the reading takes, are together of bulk at most 1048576: NARROWER than '..Said'. Prove '..Said' where nothing that the law and all that it calls make is longer than what came in: it says more and counts as full. Else prove '..UptoSaid'. A law counts once. -/
mutual
def uptoBulk {H : Type} : DataW H → Nat
  | .lit (.string bytes) => bytes.length + 1
  | .lit _ => 1
  | .nil => 1
  | .ptr d => uptoBulk d + 1
  | .slice elems spare => uptoBulkAll elems + uptoBulkAll spare + 1
  | .agg parts => uptoBulkAll parts + 1
  | .iface _ d => uptoBulk d + 1
  | .map entries => uptoBulkEntries entries + 1
  | .held _ => 1
def uptoBulkAll {H : Type} : List (DataW H) → Nat
  | [] => 0
  | d :: r => uptoBulk d + uptoBulkAll r
def uptoBulkEntries {H : Type} : List (Lit × DataW H) → Nat
  | [] => 0
  | x :: r => uptoBulkEntry x + uptoBulkEntries r
def uptoBulkEntry {H : Type} : Lit × DataW H → Nat
  | (.string bytes, d) => bytes.length + uptoBulk d + 1
  | (_, d) => uptoBulk d + 1
 end
def uptoSmall : (H : Type) → List (DataW H) → Bool := fun _ ds => decide (uptoBulkAll ds ≤ 1048576)
def OpenSpec.upto (s : _root_.Go.ChangeSpec) : _root_.Go.OpenSpec := { _root_.Go.OpenSpec.ofChange s with cond := some uptoSmall }

/-- 'wavestorelaw20.PatternPrefix', WHERE WHAT IT READS IS OF BULK AT MOST 1048576: true; the input reads as it did. -/
def patternPrefixUptoRow : OpenClaim := { program := "ytcjehiecgdmidaa", sum := "8adedaf3c0b2676bbae657da6823bd03adc3dac91dc6f47ffba10bb387ec30e3", func := "wavestore/wavestorelaw20.PatternPrefix", spec := "patternPrefix", inPlace := ["internal/bytealg.IndexByteString", "internal/bytealg.IndexString"], unfollowed := true, recurses := true, named := ["internal/bytealg.MaxLen"], apart := false, narrowed := true }
def PatternPrefixUptoSaid : Prop := patternPrefixUptoRow.holds Try.pinned (OpenSpec.upto patternPrefixSpec)

/-- 'wavestorelaw20.PatternWider', WHERE WHAT IT READS IS OF BULK AT MOST 1048576: true; the input reads as it did. -/
def patternWiderUptoRow : OpenClaim := { program := "ytcjehiecgdmidaa", sum := "8adedaf3c0b2676bbae657da6823bd03adc3dac91dc6f47ffba10bb387ec30e3", func := "wavestore/wavestorelaw20.PatternWider", spec := "patternWider", inPlace := ["internal/bytealg.IndexByteString", "internal/bytealg.IndexString"], unfollowed := true, recurses := true, named := ["internal/bytealg.MaxLen"], apart := false, narrowed := true }
def PatternWiderUptoSaid : Prop := patternWiderUptoRow.holds Try.pinned (OpenSpec.upto patternWiderSpec)

/-- 'wavestorelaw20.PatternJoined', WHERE WHAT IT READS IS OF BULK AT MOST 1048576: true; the input reads as it did. -/
def patternJoinedUptoRow : OpenClaim := { program := "ytcjehiecgdmidaa", sum := "8adedaf3c0b2676bbae657da6823bd03adc3dac91dc6f47ffba10bb387ec30e3", func := "wavestore/wavestorelaw20.PatternJoined", spec := "patternJoined", inPlace := ["internal/bytealg.IndexByteString", "internal/bytealg.IndexString"], unfollowed := true, recurses := true, named := ["internal/bytealg.MaxLen"], apart := false, narrowed := true }
def PatternJoinedUptoSaid : Prop := patternJoinedUptoRow.holds Try.pinned (OpenSpec.upto patternJoinedSpec)

/-- 'wavestorelaw20.PatternSets', WHERE WHAT IT READS IS OF BULK AT MOST 1048576: true; the input reads as it did. -/
def patternSetsUptoRow : OpenClaim := { program := "ytcjehiecgdmidaa", sum := "8adedaf3c0b2676bbae657da6823bd03adc3dac91dc6f47ffba10bb387ec30e3", func := "wavestore/wavestorelaw20.PatternSets", spec := "patternSets", inPlace := ["internal/bytealg.IndexByteString", "internal/bytealg.IndexString"], unfollowed := true, recurses := true, named := ["internal/bytealg.MaxLen"], apart := false, narrowed := true }
def PatternSetsUptoSaid : Prop := patternSetsUptoRow.holds Try.pinned (OpenSpec.upto patternSetsSpec)

/-- 'wavestorelaw20.PatternItself', WHERE WHAT IT READS IS OF BULK AT MOST 1048576: true; the input reads as it did. -/
def patternItselfUptoRow : OpenClaim := { program := "ytcjehiecgdmidaa", sum := "8adedaf3c0b2676bbae657da6823bd03adc3dac91dc6f47ffba10bb387ec30e3", func := "wavestore/wavestorelaw20.PatternItself", spec := "patternItself", inPlace := ["internal/bytealg.IndexByteString", "internal/bytealg.IndexString"], unfollowed := true, recurses := true, named := ["internal/bytealg.MaxLen"], apart := false, narrowed := true }
def PatternItselfUptoSaid : Prop := patternItselfUptoRow.holds Try.pinned (OpenSpec.upto patternItselfSpec)

end Rows
end Go.Proofs.Ytcjehiecgdmidaa
