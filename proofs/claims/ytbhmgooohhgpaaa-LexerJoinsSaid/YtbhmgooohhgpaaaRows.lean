/-
  No cell of these rows narrows 'for every input' (looked for: loops, veiled, ifaces, maps, wideKeys, modest, calm, conditions, laid).
  DERIVED. THE GIVEN ROWS OF THIS SEAT. 6 by the template 'for every input the law returns true; each argument reads behind the call as it read before'; 0 by the template 'total and deterministic' (their statements: YtbhmgooohhgpaaaTotals.lean).
  GIVEN WITH THE SEED: the statements are not yours to turn. If you find one false, say at which input.
  Laid BY PROGRAM, IN A SANDBOX (cutbox-rows.mjs): the forced cells as the released guide's own fill.sh prints them over the translation 51c0f624fca4bedf… (all of the seat's roots in one cut). By AI agents, Wed Nov 11 2026. No macro, syntax, notation, axiom, sorry.
-/
import Derived.Test.YtbhmgooohhgpaaaChecked
import GoSem.Claim
import GoSem.ClaimJoined
import GoSem.ClaimMapViews
import Derived.JoinedTies
import Derived.KernelRfl
namespace Go.Proofs.Ytbhmgooohhgpaaa
/- THE CELL 'sum', in the pinned program and in every row, IS THE sha256 OF THE DUMP (.gsa) THAT YtbhmgooohhgpaaaProg.lean LOADS. Nothing in Lean hashes anything: it is a label: what it is worth is what the hold of that sum in a sandbox is worth. -/
noncomputable def Try.pinned : Pinned := { name := "ytbhmgooohhgpaaa", sum := "51c0f624fca4bedf2c1bb50ddaf9ffc6066902287424ff8c1de21df91ab29a9b", checked := Try.checked }
namespace Rows
def none {H : Type} : Left H := { results := [], args := [] }

/-- 'wavestorelaw24.LexerScans': WHATEVER THE INPUT: true; the input reads as it did. -/
def lexerScansSpec : ChangeSpec := { name := "lexerScans", fn := fun _ => fun
  | [d] => { results := [.lit (.bool true)], args := [d] }
  | _ => none }
def lexerScansRow : OpenClaim := { program := "ytbhmgooohhgpaaa", sum := "51c0f624fca4bedf2c1bb50ddaf9ffc6066902287424ff8c1de21df91ab29a9b", func := "wavestore/wavestorelaw24.LexerScans", spec := "lexerScans", unfollowed := true, recurses := true, apart := false }
def LexerScansSaid : Prop := lexerScansRow.holds Try.pinned (OpenSpec.ofChange lexerScansSpec)

/-- ITS FALSE NEIGHBOUR: 'it returns false'. Refute it at one input. -/
def lexerScansWrong : ChangeSpec := { name := "lexerScans", fn := fun _ => fun
  | [d] => { results := [.lit (.bool false)], args := [d] }
  | _ => none }
def LexerScansWrongFalsely : Prop := lexerScansRow.holds Try.pinned (OpenSpec.ofChange lexerScansWrong)

/-- 'wavestorelaw24.LexerPositions': WHATEVER THE INPUT: true; the input reads as it did. -/
def lexerPositionsSpec : ChangeSpec := { name := "lexerPositions", fn := fun _ => fun
  | [d1, d2, d3, d4] => { results := [.lit (.bool true)], args := [d1, d2, d3, d4] }
  | _ => none }
def lexerPositionsRow : OpenClaim := { program := "ytbhmgooohhgpaaa", sum := "51c0f624fca4bedf2c1bb50ddaf9ffc6066902287424ff8c1de21df91ab29a9b", func := "wavestore/wavestorelaw24.LexerPositions", spec := "lexerPositions", unfollowed := true, recurses := true, apart := false }
def LexerPositionsSaid : Prop := lexerPositionsRow.holds Try.pinned (OpenSpec.ofChange lexerPositionsSpec)

/-- ITS FALSE NEIGHBOUR: 'it returns false'. Refute it at one input. -/
def lexerPositionsWrong : ChangeSpec := { name := "lexerPositions", fn := fun _ => fun
  | [d1, d2, d3, d4] => { results := [.lit (.bool false)], args := [d1, d2, d3, d4] }
  | _ => none }
def LexerPositionsWrongFalsely : Prop := lexerPositionsRow.holds Try.pinned (OpenSpec.ofChange lexerPositionsWrong)

/-- 'wavestorelaw24.LexerSections': WHATEVER THE INPUT: true; the input reads as it did. -/
def lexerSectionsSpec : ChangeSpec := { name := "lexerSections", fn := fun _ => fun
  | [d1, d2] => { results := [.lit (.bool true)], args := [d1, d2] }
  | _ => none }
def lexerSectionsRow : OpenClaim := { program := "ytbhmgooohhgpaaa", sum := "51c0f624fca4bedf2c1bb50ddaf9ffc6066902287424ff8c1de21df91ab29a9b", func := "wavestore/wavestorelaw24.LexerSections", spec := "lexerSections", unfollowed := true, recurses := true, apart := false }
def LexerSectionsSaid : Prop := lexerSectionsRow.holds Try.pinned (OpenSpec.ofChange lexerSectionsSpec)

/-- ITS FALSE NEIGHBOUR: 'it returns false'. Refute it at one input. -/
def lexerSectionsWrong : ChangeSpec := { name := "lexerSections", fn := fun _ => fun
  | [d1, d2] => { results := [.lit (.bool false)], args := [d1, d2] }
  | _ => none }
def LexerSectionsWrongFalsely : Prop := lexerSectionsRow.holds Try.pinned (OpenSpec.ofChange lexerSectionsWrong)

/-- 'wavestorelaw24.LexerParts': WHATEVER THE INPUT: true; the input reads as it did. -/
def lexerPartsSpec : ChangeSpec := { name := "lexerParts", fn := fun _ => fun
  | [d1, d2] => { results := [.lit (.bool true)], args := [d1, d2] }
  | _ => none }
def lexerPartsRow : OpenClaim := { program := "ytbhmgooohhgpaaa", sum := "51c0f624fca4bedf2c1bb50ddaf9ffc6066902287424ff8c1de21df91ab29a9b", func := "wavestore/wavestorelaw24.LexerParts", spec := "lexerParts", inPlace := ["internal/bytealg.CountString", "internal/bytealg.IndexByteString", "internal/bytealg.IndexString"], unfollowed := true, recurses := true, named := ["internal/bytealg.MaxLen"], apart := false }
def LexerPartsSaid : Prop := lexerPartsRow.holds Try.pinned (OpenSpec.ofChange lexerPartsSpec)

/-- ITS FALSE NEIGHBOUR: 'it returns false'. Refute it at one input. -/
def lexerPartsWrong : ChangeSpec := { name := "lexerParts", fn := fun _ => fun
  | [d1, d2] => { results := [.lit (.bool false)], args := [d1, d2] }
  | _ => none }
def LexerPartsWrongFalsely : Prop := lexerPartsRow.holds Try.pinned (OpenSpec.ofChange lexerPartsWrong)

/-- 'wavestorelaw24.LexerLines': WHATEVER THE INPUT: true; the input reads as it did. -/
def lexerLinesSpec : ChangeSpec := { name := "lexerLines", fn := fun _ => fun
  | [d] => { results := [.lit (.bool true)], args := [d] }
  | _ => none }
def lexerLinesRow : OpenClaim := { program := "ytbhmgooohhgpaaa", sum := "51c0f624fca4bedf2c1bb50ddaf9ffc6066902287424ff8c1de21df91ab29a9b", func := "wavestore/wavestorelaw24.LexerLines", spec := "lexerLines", inPlace := ["internal/bytealg.CountString", "internal/bytealg.IndexByteString", "internal/bytealg.IndexString"], unfollowed := true, recurses := true, named := ["internal/bytealg.MaxLen"], apart := false }
def LexerLinesSaid : Prop := lexerLinesRow.holds Try.pinned (OpenSpec.ofChange lexerLinesSpec)

/-- ITS FALSE NEIGHBOUR: 'it returns false'. Refute it at one input. -/
def lexerLinesWrong : ChangeSpec := { name := "lexerLines", fn := fun _ => fun
  | [d] => { results := [.lit (.bool false)], args := [d] }
  | _ => none }
def LexerLinesWrongFalsely : Prop := lexerLinesRow.holds Try.pinned (OpenSpec.ofChange lexerLinesWrong)

/-- 'wavestorelaw24.LexerJoins': WHATEVER THE INPUT: true; the input reads as it did. -/
def lexerJoinsSpec : ChangeSpec := { name := "lexerJoins", fn := fun _ => fun
  | [d1, d2] => { results := [.lit (.bool true)], args := [d1, d2] }
  | _ => none }
def lexerJoinsRow : OpenClaim := { program := "ytbhmgooohhgpaaa", sum := "51c0f624fca4bedf2c1bb50ddaf9ffc6066902287424ff8c1de21df91ab29a9b", func := "wavestore/wavestorelaw24.LexerJoins", spec := "lexerJoins", inPlace := ["internal/bytealg.IndexByteString", "internal/bytealg.IndexString", "internal/abi.NoEscape", "internal/bytealg.MakeNoZero"], unfollowed := true, recurses := true, named := ["internal/bytealg.MaxLen"], apart := false }
def LexerJoinsSaid : Prop := lexerJoinsRow.holds Try.pinned (OpenSpec.ofChange lexerJoinsSpec)

/-- ITS FALSE NEIGHBOUR: 'it returns false'. Refute it at one input. -/
def lexerJoinsWrong : ChangeSpec := { name := "lexerJoins", fn := fun _ => fun
  | [d1, d2] => { results := [.lit (.bool false)], args := [d1, d2] }
  | _ => none }
def LexerJoinsWrongFalsely : Prop := lexerJoinsRow.holds Try.pinned (OpenSpec.ofChange lexerJoinsWrong)

/- THE SECOND FORM. 'bulk': how many values and letters a reading holds, each counted each time it is reached (what is shared counts as often as it is met; a slice's spare places count too). A statement '..UptoSaid' is the law's where the arguments, and the package variables that the reading takes, are together of bulk at most 1048576: NARROWER than '..Said'. Prove '..Said' where nothing that the law and all that it calls make is longer than what came in: it says more and counts as full. Else prove '..UptoSaid'. A law counts once. -/
mutual
def uptoBulk {H : Type} : DataW H → Nat
  | .lit (.string bytes) => bytes.length + 1
  | .lit _ => 1
  | .nil => 1
  | .ptr d => uptoBulk d + 1
  | .slice elems spare => uptoBulkAll elems + uptoBulkAll spare + 1
  | .agg parts => uptoBulkAll parts + 1
  | .iface _ d => uptoBulk d + 1
  | .map entries => uptoBulkEntries entries + 1
  | .held _ => 1
def uptoBulkAll {H : Type} : List (DataW H) → Nat
  | [] => 0
  | d :: r => uptoBulk d + uptoBulkAll r
def uptoBulkEntries {H : Type} : List (Lit × DataW H) → Nat
  | [] => 0
  | x :: r => uptoBulkEntry x + uptoBulkEntries r
def uptoBulkEntry {H : Type} : Lit × DataW H → Nat
  | (.string bytes, d) => bytes.length + uptoBulk d + 1
  | (_, d) => uptoBulk d + 1
 end
def uptoSmall : (H : Type) → List (DataW H) → Bool := fun _ ds => decide (uptoBulkAll ds ≤ 1048576)
def OpenSpec.upto (s : _root_.Go.ChangeSpec) : _root_.Go.OpenSpec := { _root_.Go.OpenSpec.ofChange s with cond := some uptoSmall }

/-- 'wavestorelaw24.LexerScans', WHERE WHAT IT READS IS OF BULK AT MOST 1048576: true; the input reads as it did. -/
def lexerScansUptoRow : OpenClaim := { program := "ytbhmgooohhgpaaa", sum := "51c0f624fca4bedf2c1bb50ddaf9ffc6066902287424ff8c1de21df91ab29a9b", func := "wavestore/wavestorelaw24.LexerScans", spec := "lexerScans", unfollowed := true, recurses := true, apart := false, narrowed := true }
def LexerScansUptoSaid : Prop := lexerScansUptoRow.holds Try.pinned (OpenSpec.upto lexerScansSpec)

/-- 'wavestorelaw24.LexerPositions', WHERE WHAT IT READS IS OF BULK AT MOST 1048576: true; the input reads as it did. -/
def lexerPositionsUptoRow : OpenClaim := { program := "ytbhmgooohhgpaaa", sum := "51c0f624fca4bedf2c1bb50ddaf9ffc6066902287424ff8c1de21df91ab29a9b", func := "wavestore/wavestorelaw24.LexerPositions", spec := "lexerPositions", unfollowed := true, recurses := true, apart := false, narrowed := true }
def LexerPositionsUptoSaid : Prop := lexerPositionsUptoRow.holds Try.pinned (OpenSpec.upto lexerPositionsSpec)

/-- 'wavestorelaw24.LexerSections', WHERE WHAT IT READS IS OF BULK AT MOST 1048576: true; the input reads as it did. -/
def lexerSectionsUptoRow : OpenClaim := { program := "ytbhmgooohhgpaaa", sum := "51c0f624fca4bedf2c1bb50ddaf9ffc6066902287424ff8c1de21df91ab29a9b", func := "wavestore/wavestorelaw24.LexerSections", spec := "lexerSections", unfollowed := true, recurses := true, apart := false, narrowed := true }
def LexerSectionsUptoSaid : Prop := lexerSectionsUptoRow.holds Try.pinned (OpenSpec.upto lexerSectionsSpec)

/-- 'wavestorelaw24.LexerParts', WHERE WHAT IT READS IS OF BULK AT MOST 1048576: true; the input reads as it did. -/
def lexerPartsUptoRow : OpenClaim := { program := "ytbhmgooohhgpaaa", sum := "51c0f624fca4bedf2c1bb50ddaf9ffc6066902287424ff8c1de21df91ab29a9b", func := "wavestore/wavestorelaw24.LexerParts", spec := "lexerParts", inPlace := ["internal/bytealg.CountString", "internal/bytealg.IndexByteString", "internal/bytealg.IndexString"], unfollowed := true, recurses := true, named := ["internal/bytealg.MaxLen"], apart := false, narrowed := true }
def LexerPartsUptoSaid : Prop := lexerPartsUptoRow.holds Try.pinned (OpenSpec.upto lexerPartsSpec)

/-- 'wavestorelaw24.LexerLines', WHERE WHAT IT READS IS OF BULK AT MOST 1048576: true; the input reads as it did. -/
def lexerLinesUptoRow : OpenClaim := { program := "ytbhmgooohhgpaaa", sum := "51c0f624fca4bedf2c1bb50ddaf9ffc6066902287424ff8c1de21df91ab29a9b", func := "wavestore/wavestorelaw24.LexerLines", spec := "lexerLines", inPlace := ["internal/bytealg.CountString", "internal/bytealg.IndexByteString", "internal/bytealg.IndexString"], unfollowed := true, recurses := true, named := ["internal/bytealg.MaxLen"], apart := false, narrowed := true }
def LexerLinesUptoSaid : Prop := lexerLinesUptoRow.holds Try.pinned (OpenSpec.upto lexerLinesSpec)

/-- 'wavestorelaw24.LexerJoins', WHERE WHAT IT READS IS OF BULK AT MOST 1048576: true; the input reads as it did. -/
def lexerJoinsUptoRow : OpenClaim := { program := "ytbhmgooohhgpaaa", sum := "51c0f624fca4bedf2c1bb50ddaf9ffc6066902287424ff8c1de21df91ab29a9b", func := "wavestore/wavestorelaw24.LexerJoins", spec := "lexerJoins", inPlace := ["internal/bytealg.IndexByteString", "internal/bytealg.IndexString", "internal/abi.NoEscape", "internal/bytealg.MakeNoZero"], unfollowed := true, recurses := true, named := ["internal/bytealg.MaxLen"], apart := false, narrowed := true }
def LexerJoinsUptoSaid : Prop := lexerJoinsUptoRow.holds Try.pinned (OpenSpec.upto lexerJoinsSpec)

end Rows
end Go.Proofs.Ytbhmgooohhgpaaa
