/-
  DERIVED. GIVEN WITH THE SEED: THE CARDS: each row of YtpjikbfeegncbaaDoorRows.lean that lists a variable, with what it lists TIED to the program's text (the seventh form; the later family's looks); each row that meets fmt, with fmt's text TOLD by the authors' own Lean function (tested against real Go, not proved from fmt's source: count such statements apart). THE CARD IS WHAT COUNTS. Prove the row's statement (the work); the ties are given (YtpjikbfeegncbaaDoorTie.lean); close each card by the builder's one call (the guide's Derived/Test/ToyasCard.lean, 'card_holds'). Laid BY PROGRAM, IN A SANDBOX (cutbox-door.mjs). By AI agents, Wed Nov 11 2026. No macro, syntax, notation, axiom, sorry.
-/
import Derived.Test.YtpjikbfeegncbaaDoorRows
import GoSem.ClaimSeven
namespace Go.Proofs.YtpjikbfeegncbaaDoor
namespace Rows

/-- THE TIED CARD OF 'wavestorelaw17.ValueReturns'. -/
def valueReturnsCard : Claim7 := { stood := { row := valueReturnsRow, standIns := [], harness := (true, "dee748a22c6e2228c215ce1c63a7ca1d340b926b5e4b431afa39eac1be5c6460"), looks := false }, kinds := [], alts := [], laidByText := true, laidKinds := [.data, .data, .data, .data, .pinned], laidTests := true, laidLooks := .later }
def ValueReturnsCardSaid : Prop := Claim7.holds Tryd.pinned (.plain (OpenSpec.ofChange valueReturnsSpec)) valueReturnsCard

/-- THE SECOND FORM's CARD OF 'wavestorelaw17.ValueReturns'. -/
def valueReturnsUptoCard : Claim7 := { stood := { row := valueReturnsUptoRow, standIns := [], harness := (true, "dee748a22c6e2228c215ce1c63a7ca1d340b926b5e4b431afa39eac1be5c6460"), looks := false }, kinds := [], alts := [], laidByText := true, laidKinds := [.data, .data, .data, .data, .pinned], laidTests := true, laidLooks := .later }
def ValueReturnsUptoCardSaid : Prop := Claim7.holds Tryd.pinned (.plain (OpenSpec.upto valueReturnsSpec)) valueReturnsUptoCard
end Rows
end Go.Proofs.YtpjikbfeegncbaaDoor
