/-
  No cell of these rows narrows 'for every input' (looked for: loops, veiled, ifaces, maps, wideKeys, modest, calm, conditions, laid).
  DERIVED. THE GIVEN ROWS OF THIS SEAT. 4 by the template 'for every input the law returns true; each argument reads behind the call as it read before'; 0 by the template 'total and deterministic' (their statements: YtpfiofgchkfkhaaTotals.lean).
  GIVEN WITH THE SEED: the statements are not yours to turn. If you find one false, say at which input.
  Laid BY PROGRAM, IN A SANDBOX (cutbox-rows.mjs): the forced cells as the released guide's own fill.sh prints them over the translation f6fcfd792a1e48a2… (all of the seat's roots in one cut). By AI agents, Wed Nov 11 2026. No macro, syntax, notation, axiom, sorry.
-/
import Derived.Test.YtpfiofgchkfkhaaChecked
import GoSem.Claim
import GoSem.ClaimJoined
import GoSem.ClaimMapViews
import Derived.JoinedTies
import Derived.KernelRfl
namespace Go.Proofs.Ytpfiofgchkfkhaa
/- THE CELL 'sum', in the pinned program and in every row, IS THE sha256 OF THE DUMP (.gsa) THAT YtpfiofgchkfkhaaProg.lean LOADS. Nothing in Lean hashes anything: it is a label: what it is worth is what the hold of that sum in a sandbox is worth. -/
noncomputable def Try.pinned : Pinned := { name := "ytpfiofgchkfkhaa", sum := "f6fcfd792a1e48a267f1cb8a8bcfc67f1536d373072086e47e0881b390a714f5", checked := Try.checked }
namespace Rows
def none {H : Type} : Left H := { results := [], args := [] }

/-- 'wavestorelaw21.HierarchyMixed': WHATEVER THE INPUT: true; the input reads as it did. -/
def hierarchyMixedSpec : ChangeSpec := { name := "hierarchyMixed", fn := fun _ => fun
  | [d1, d2, d3] => { results := [.lit (.bool true)], args := [d1, d2, d3] }
  | _ => none }
def hierarchyMixedRow : OpenClaim := { program := "ytpfiofgchkfkhaa", sum := "f6fcfd792a1e48a267f1cb8a8bcfc67f1536d373072086e47e0881b390a714f5", func := "wavestore/wavestorelaw21.HierarchyMixed", spec := "hierarchyMixed", inPlace := ["internal/bytealg.IndexByteString", "internal/bytealg.IndexString"], unfollowed := true, recurses := true, named := ["internal/bytealg.MaxLen"], plainKeys := false, apart := false }
def HierarchyMixedSaid : Prop := hierarchyMixedRow.holds Try.pinned (OpenSpec.ofChange hierarchyMixedSpec)

/-- ITS FALSE NEIGHBOUR: 'it returns false'. Refute it at one input. -/
def hierarchyMixedWrong : ChangeSpec := { name := "hierarchyMixed", fn := fun _ => fun
  | [d1, d2, d3] => { results := [.lit (.bool false)], args := [d1, d2, d3] }
  | _ => none }
def HierarchyMixedWrongFalsely : Prop := hierarchyMixedRow.holds Try.pinned (OpenSpec.ofChange hierarchyMixedWrong)

/-- 'wavestorelaw21.HierarchyOrdered': WHATEVER THE INPUT: true; the input reads as it did. -/
def hierarchyOrderedSpec : ChangeSpec := { name := "hierarchyOrdered", fn := fun _ => fun
  | [d1, d2] => { results := [.lit (.bool true)], args := [d1, d2] }
  | _ => none }
def hierarchyOrderedRow : OpenClaim := { program := "ytpfiofgchkfkhaa", sum := "f6fcfd792a1e48a267f1cb8a8bcfc67f1536d373072086e47e0881b390a714f5", func := "wavestore/wavestorelaw21.HierarchyOrdered", spec := "hierarchyOrdered", inPlace := ["internal/bytealg.IndexByteString", "internal/bytealg.IndexString"], unfollowed := true, recurses := true, named := ["internal/bytealg.MaxLen"], plainKeys := false, apart := false }
def HierarchyOrderedSaid : Prop := hierarchyOrderedRow.holds Try.pinned (OpenSpec.ofChange hierarchyOrderedSpec)

/-- ITS FALSE NEIGHBOUR: 'it returns false'. Refute it at one input. -/
def hierarchyOrderedWrong : ChangeSpec := { name := "hierarchyOrdered", fn := fun _ => fun
  | [d1, d2] => { results := [.lit (.bool false)], args := [d1, d2] }
  | _ => none }
def HierarchyOrderedWrongFalsely : Prop := hierarchyOrderedRow.holds Try.pinned (OpenSpec.ofChange hierarchyOrderedWrong)

/-- 'wavestorelaw21.HierarchyInverse': WHATEVER THE INPUT: true; the input reads as it did. -/
def hierarchyInverseSpec : ChangeSpec := { name := "hierarchyInverse", fn := fun _ => fun
  | [d1, d2] => { results := [.lit (.bool true)], args := [d1, d2] }
  | _ => none }
def hierarchyInverseRow : OpenClaim := { program := "ytpfiofgchkfkhaa", sum := "f6fcfd792a1e48a267f1cb8a8bcfc67f1536d373072086e47e0881b390a714f5", func := "wavestore/wavestorelaw21.HierarchyInverse", spec := "hierarchyInverse", inPlace := ["internal/bytealg.IndexByteString", "internal/bytealg.IndexString"], unfollowed := true, recurses := true, named := ["internal/bytealg.MaxLen"], plainKeys := false, apart := false }
def HierarchyInverseSaid : Prop := hierarchyInverseRow.holds Try.pinned (OpenSpec.ofChange hierarchyInverseSpec)

/-- ITS FALSE NEIGHBOUR: 'it returns false'. Refute it at one input. -/
def hierarchyInverseWrong : ChangeSpec := { name := "hierarchyInverse", fn := fun _ => fun
  | [d1, d2] => { results := [.lit (.bool false)], args := [d1, d2] }
  | _ => none }
def HierarchyInverseWrongFalsely : Prop := hierarchyInverseRow.holds Try.pinned (OpenSpec.ofChange hierarchyInverseWrong)

/-- 'wavestorelaw21.HierarchyTree': WHATEVER THE INPUT: true; the input reads as it did. -/
def hierarchyTreeSpec : ChangeSpec := { name := "hierarchyTree", fn := fun _ => fun
  | [d1, d2] => { results := [.lit (.bool true)], args := [d1, d2] }
  | _ => none }
def hierarchyTreeRow : OpenClaim := { program := "ytpfiofgchkfkhaa", sum := "f6fcfd792a1e48a267f1cb8a8bcfc67f1536d373072086e47e0881b390a714f5", func := "wavestore/wavestorelaw21.HierarchyTree", spec := "hierarchyTree", inPlace := ["internal/bytealg.IndexByteString", "internal/bytealg.IndexString"], unfollowed := true, recurses := true, named := ["internal/bytealg.MaxLen"], plainKeys := false, apart := false }
def HierarchyTreeSaid : Prop := hierarchyTreeRow.holds Try.pinned (OpenSpec.ofChange hierarchyTreeSpec)

/-- ITS FALSE NEIGHBOUR: 'it returns false'. Refute it at one input. -/
def hierarchyTreeWrong : ChangeSpec := { name := "hierarchyTree", fn := fun _ => fun
  | [d1, d2] => { results := [.lit (.bool false)], args := [d1, d2] }
  | _ => none }
def HierarchyTreeWrongFalsely : Prop := hierarchyTreeRow.holds Try.pinned (OpenSpec.ofChange hierarchyTreeWrong)

/- THE SECOND FORM. 'bulk': how many values and letters a reading holds, each counted each time it is reached (what is shared counts as often as it is met; a slice's spare places count too). A statement '..UptoSaid' is the law's where the arguments, and the package variables that the reading takes, are together of bulk at most 1048576: NARROWER than '..Said'. Prove '..Said' where nothing that the law and all that it calls make is longer than what came in: it says more and counts as full. Else prove '..UptoSaid'. A law counts once. -/
mutual
def uptoBulk {H : Type} : DataW H → Nat
  | .lit (.string bytes) => bytes.length + 1
  | .lit _ => 1
  | .nil => 1
  | .ptr d => uptoBulk d + 1
  | .slice elems spare => uptoBulkAll elems + uptoBulkAll spare + 1
  | .agg parts => uptoBulkAll parts + 1
  | .iface _ d => uptoBulk d + 1
  | .map entries => uptoBulkEntries entries + 1
  | .held _ => 1
def uptoBulkAll {H : Type} : List (DataW H) → Nat
  | [] => 0
  | d :: r => uptoBulk d + uptoBulkAll r
def uptoBulkEntries {H : Type} : List (Lit × DataW H) → Nat
  | [] => 0
  | x :: r => uptoBulkEntry x + uptoBulkEntries r
def uptoBulkEntry {H : Type} : Lit × DataW H → Nat
  | (.string bytes, d) => bytes.length + uptoBulk d + 1
  | (_, d) => uptoBulk d + 1
 end
def uptoSmall : (H : Type) → List (DataW H) → Bool := fun _ ds => decide (uptoBulkAll ds ≤ 1048576)
def OpenSpec.upto (s : _root_.Go.ChangeSpec) : _root_.Go.OpenSpec := { _root_.Go.OpenSpec.ofChange s with cond := some uptoSmall }

/-- 'wavestorelaw21.HierarchyMixed', WHERE WHAT IT READS IS OF BULK AT MOST 1048576: true; the input reads as it did. -/
def hierarchyMixedUptoRow : OpenClaim := { program := "ytpfiofgchkfkhaa", sum := "f6fcfd792a1e48a267f1cb8a8bcfc67f1536d373072086e47e0881b390a714f5", func := "wavestore/wavestorelaw21.HierarchyMixed", spec := "hierarchyMixed", inPlace := ["internal/bytealg.IndexByteString", "internal/bytealg.IndexString"], unfollowed := true, recurses := true, named := ["internal/bytealg.MaxLen"], plainKeys := false, apart := false, narrowed := true }
def HierarchyMixedUptoSaid : Prop := hierarchyMixedUptoRow.holds Try.pinned (OpenSpec.upto hierarchyMixedSpec)

/-- 'wavestorelaw21.HierarchyOrdered', WHERE WHAT IT READS IS OF BULK AT MOST 1048576: true; the input reads as it did. -/
def hierarchyOrderedUptoRow : OpenClaim := { program := "ytpfiofgchkfkhaa", sum := "f6fcfd792a1e48a267f1cb8a8bcfc67f1536d373072086e47e0881b390a714f5", func := "wavestore/wavestorelaw21.HierarchyOrdered", spec := "hierarchyOrdered", inPlace := ["internal/bytealg.IndexByteString", "internal/bytealg.IndexString"], unfollowed := true, recurses := true, named := ["internal/bytealg.MaxLen"], plainKeys := false, apart := false, narrowed := true }
def HierarchyOrderedUptoSaid : Prop := hierarchyOrderedUptoRow.holds Try.pinned (OpenSpec.upto hierarchyOrderedSpec)

/-- 'wavestorelaw21.HierarchyInverse', WHERE WHAT IT READS IS OF BULK AT MOST 1048576: true; the input reads as it did. -/
def hierarchyInverseUptoRow : OpenClaim := { program := "ytpfiofgchkfkhaa", sum := "f6fcfd792a1e48a267f1cb8a8bcfc67f1536d373072086e47e0881b390a714f5", func := "wavestore/wavestorelaw21.HierarchyInverse", spec := "hierarchyInverse", inPlace := ["internal/bytealg.IndexByteString", "internal/bytealg.IndexString"], unfollowed := true, recurses := true, named := ["internal/bytealg.MaxLen"], plainKeys := false, apart := false, narrowed := true }
def HierarchyInverseUptoSaid : Prop := hierarchyInverseUptoRow.holds Try.pinned (OpenSpec.upto hierarchyInverseSpec)

/-- 'wavestorelaw21.HierarchyTree', WHERE WHAT IT READS IS OF BULK AT MOST 1048576: true; the input reads as it did. -/
def hierarchyTreeUptoRow : OpenClaim := { program := "ytpfiofgchkfkhaa", sum := "f6fcfd792a1e48a267f1cb8a8bcfc67f1536d373072086e47e0881b390a714f5", func := "wavestore/wavestorelaw21.HierarchyTree", spec := "hierarchyTree", inPlace := ["internal/bytealg.IndexByteString", "internal/bytealg.IndexString"], unfollowed := true, recurses := true, named := ["internal/bytealg.MaxLen"], plainKeys := false, apart := false, narrowed := true }
def HierarchyTreeUptoSaid : Prop := hierarchyTreeUptoRow.holds Try.pinned (OpenSpec.upto hierarchyTreeSpec)

end Rows
end Go.Proofs.Ytpfiofgchkfkhaa
