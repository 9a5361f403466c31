/-
  DERIVED. GIVEN WITH THE SEED: THE CARDS: each row of YtddoehnkgcbboaaGreatDoorRows.lean that lists a variable, with what it lists TIED to the program's text (the seventh form; the later family's looks); each row that meets fmt, with fmt's text TOLD by the authors' own Lean function (tested against real Go, not proved from fmt's source: count such statements apart). THE CARD IS WHAT COUNTS. Prove the row's statement (the work); the ties are given (YtddoehnkgcbboaaGreatDoorTie.lean); close each card by the builder's one call (the guide's Derived/Test/ToyasCard.lean, 'card_holds'). Laid BY PROGRAM, IN A SANDBOX (cutbox-door.mjs). By AI agents, Wed Nov 11 2026. No macro, syntax, notation, axiom, sorry.
-/
import Derived.Test.YtddoehnkgcbboaaGreatDoorRows
import GoSem.ClaimSeven
namespace Go.Proofs.YtddoehnkgcbboaaGreatDoor
namespace Rows

/-- THE TIED CARD OF 'wavestorelaw49.QparseParses'. -/
def qparseParsesCard : Claim7 := { stood := { row := qparseParsesRow, standIns := [], harness := (true, "1f324c5ebd04006e88483b768b425774c0fa01a8735ed16f673b6dcd358c1e5d"), looks := true }, kinds := [], alts := [], laidByText := true, laidKinds := [.data, .data, .data, .data, .sentinel, .sentinel, .pinned], laidTests := true, laidLooks := .later }
def QparseParsesCardSaid : Prop := Claim7.holds Tryz.pinned (.plain (OpenSpec.ofChange qparseParsesSpec)) qparseParsesCard

/-- THE TIED CARD OF 'wavestorelaw49.QparsePrecedence'. -/
def qparsePrecedenceCard : Claim7 := { stood := { row := qparsePrecedenceRow, standIns := [], harness := (true, "1f324c5ebd04006e88483b768b425774c0fa01a8735ed16f673b6dcd358c1e5d"), looks := true }, kinds := [], alts := [], laidByText := true, laidKinds := [.data, .data, .data, .data, .sentinel, .sentinel, .pinned], laidTests := true, laidLooks := .later }
def QparsePrecedenceCardSaid : Prop := Claim7.holds Tryz.pinned (.plain (OpenSpec.ofChange qparsePrecedenceSpec)) qparsePrecedenceCard

/-- THE TIED CARD OF 'wavestorelaw49.QparseAgain'. -/
def qparseAgainCard : Claim7 := { stood := { row := qparseAgainRow, standIns := [], harness := (true, "1f324c5ebd04006e88483b768b425774c0fa01a8735ed16f673b6dcd358c1e5d"), looks := true }, kinds := [], alts := [], laidByText := true, laidKinds := [.data, .data, .data, .data, .sentinel, .sentinel, .pinned], laidTests := true, laidLooks := .later }
def QparseAgainCardSaid : Prop := Claim7.holds Tryz.pinned (.plain (OpenSpec.ofChange qparseAgainSpec)) qparseAgainCard

/-- THE SECOND FORM's CARD OF 'wavestorelaw49.QparseParses'. -/
def qparseParsesUptoCard : Claim7 := { stood := { row := qparseParsesUptoRow, standIns := [], harness := (true, "1f324c5ebd04006e88483b768b425774c0fa01a8735ed16f673b6dcd358c1e5d"), looks := true }, kinds := [], alts := [], laidByText := true, laidKinds := [.data, .data, .data, .data, .sentinel, .sentinel, .pinned], laidTests := true, laidLooks := .later }
def QparseParsesUptoCardSaid : Prop := Claim7.holds Tryz.pinned (.plain (OpenSpec.upto qparseParsesSpec)) qparseParsesUptoCard

/-- THE SECOND FORM's CARD OF 'wavestorelaw49.QparsePrecedence'. -/
def qparsePrecedenceUptoCard : Claim7 := { stood := { row := qparsePrecedenceUptoRow, standIns := [], harness := (true, "1f324c5ebd04006e88483b768b425774c0fa01a8735ed16f673b6dcd358c1e5d"), looks := true }, kinds := [], alts := [], laidByText := true, laidKinds := [.data, .data, .data, .data, .sentinel, .sentinel, .pinned], laidTests := true, laidLooks := .later }
def QparsePrecedenceUptoCardSaid : Prop := Claim7.holds Tryz.pinned (.plain (OpenSpec.upto qparsePrecedenceSpec)) qparsePrecedenceUptoCard

/-- THE SECOND FORM's CARD OF 'wavestorelaw49.QparseAgain'. -/
def qparseAgainUptoCard : Claim7 := { stood := { row := qparseAgainUptoRow, standIns := [], harness := (true, "1f324c5ebd04006e88483b768b425774c0fa01a8735ed16f673b6dcd358c1e5d"), looks := true }, kinds := [], alts := [], laidByText := true, laidKinds := [.data, .data, .data, .data, .sentinel, .sentinel, .pinned], laidTests := true, laidLooks := .later }
def QparseAgainUptoCardSaid : Prop := Claim7.holds Tryz.pinned (.plain (OpenSpec.upto qparseAgainSpec)) qparseAgainUptoCard
end Rows
end Go.Proofs.YtddoehnkgcbboaaGreatDoor
