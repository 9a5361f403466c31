/-
  DERIVED. GIVEN WITH THE SEED: THE CARDS: each row of YtglfnbhcdblpiaaDoorRows.lean that lists a variable, with what it lists TIED to the program's text (the seventh form; the later family's looks); each row that meets fmt, with fmt's text TOLD by the authors' own Lean function (tested against real Go, not proved from fmt's source: count such statements apart). THE CARD IS WHAT COUNTS. Prove the row's statement (the work); the ties are given (YtglfnbhcdblpiaaDoorTie.lean); close each card by the builder's one call (the guide's Derived/Test/ToyasCard.lean, 'card_holds'). Laid BY PROGRAM, IN A SANDBOX (cutbox-door.mjs). By AI agents, Wed Nov 11 2026. No macro, syntax, notation, axiom, sorry.
-/
import Derived.Test.YtglfnbhcdblpiaaDoorRows
import GoSem.ClaimSeven
namespace Go.Proofs.YtglfnbhcdblpiaaDoor
namespace Rows

/-- THE TIED CARD OF 'wavestorelaw18.TimescaleTexts'. -/
def timescaleTextsCard : Claim7 := { stood := { row := timescaleTextsRow, standIns := [], harness := (true, "7b4c42421b649b896309fff9be7f0655acc08c48e529a79c64a123f0d01cb6e5"), looks := true }, kinds := [], alts := [], laidByText := true, laidKinds := [.data, .data, .data, .data, .sentinel, .sentinel, .pinned], laidTests := true, laidLooks := .later }
def TimescaleTextsCardSaid : Prop := Claim7.holds Tryd.pinned (.plain (OpenSpec.ofChange timescaleTextsSpec)) timescaleTextsCard

/-- THE TIED CARD OF 'wavestorelaw18.TimescaleConverts'. -/
def timescaleConvertsCard : Claim7 := { stood := { row := timescaleConvertsRow, standIns := [], harness := (true, "7b4c42421b649b896309fff9be7f0655acc08c48e529a79c64a123f0d01cb6e5"), looks := true }, kinds := [], alts := [], laidByText := true, laidKinds := [.data, .data, .data, .data, .sentinel, .sentinel, .pinned], laidTests := true, laidLooks := .later }
def TimescaleConvertsCardSaid : Prop := Claim7.holds Tryd.pinned (.plain (OpenSpec.ofChange timescaleConvertsSpec)) timescaleConvertsCard

/-- THE TIED CARD OF 'wavestorelaw18.TimescaleReads'. -/
def timescaleReadsCard : Claim7 := { stood := { row := timescaleReadsRow, standIns := [], harness := (true, "7b4c42421b649b896309fff9be7f0655acc08c48e529a79c64a123f0d01cb6e5"), looks := true }, kinds := [], alts := [], laidByText := true, laidKinds := [.data, .data, .data, .data, .sentinel, .sentinel, .pinned], laidTests := true, laidLooks := .later }
def TimescaleReadsCardSaid : Prop := Claim7.holds Tryd.pinned (.plain (OpenSpec.ofChange timescaleReadsSpec)) timescaleReadsCard

/-- THE TIED CARD OF 'wavestorelaw18.TimescaleReturns'. -/
def timescaleReturnsCard : Claim7 := { stood := { row := timescaleReturnsRow, standIns := [], harness := (true, "7b4c42421b649b896309fff9be7f0655acc08c48e529a79c64a123f0d01cb6e5"), looks := true }, kinds := [], alts := [], laidByText := true, laidKinds := [.data, .data, .data, .data, .sentinel, .sentinel, .pinned], laidTests := true, laidLooks := .later }
def TimescaleReturnsCardSaid : Prop := Claim7.holds Tryd.pinned (.plain (OpenSpec.ofChange timescaleReturnsSpec)) timescaleReturnsCard

/-- THE TIED CARD OF 'wavestorelaw18.TimescaleFloors'. -/
def timescaleFloorsCard : Claim7 := { stood := { row := timescaleFloorsRow, standIns := [], harness := (true, "7b4c42421b649b896309fff9be7f0655acc08c48e529a79c64a123f0d01cb6e5"), looks := true }, kinds := [], alts := [], laidByText := true, laidKinds := [.data, .data, .data, .data, .sentinel, .sentinel, .pinned], laidTests := true, laidLooks := .later }
def TimescaleFloorsCardSaid : Prop := Claim7.holds Tryd.pinned (.plain (OpenSpec.ofChange timescaleFloorsSpec)) timescaleFloorsCard

/-- THE TIED CARD OF 'wavestorelaw18.TimescaleChains'. -/
def timescaleChainsCard : Claim7 := { stood := { row := timescaleChainsRow, standIns := [], harness := (true, "7b4c42421b649b896309fff9be7f0655acc08c48e529a79c64a123f0d01cb6e5"), looks := true }, kinds := [], alts := [], laidByText := true, laidKinds := [.data, .data, .data, .data, .sentinel, .sentinel, .pinned], laidTests := true, laidLooks := .later }
def TimescaleChainsCardSaid : Prop := Claim7.holds Tryd.pinned (.plain (OpenSpec.ofChange timescaleChainsSpec)) timescaleChainsCard

/-- THE TIED CARD OF 'wavestorelaw18.TimescaleShown'. -/
def timescaleShownCard : Claim7 := { stood := { row := timescaleShownRow, standIns := [], harness := (true, "7b4c42421b649b896309fff9be7f0655acc08c48e529a79c64a123f0d01cb6e5"), looks := true }, kinds := [], alts := [], laidByText := true, laidKinds := [.data, .data, .data, .data, .sentinel, .sentinel, .pinned], laidTests := true, laidLooks := .later }
def TimescaleShownCardSaid : Prop := Claim7.holds Tryd.pinned (.plain (OpenSpec.ofChange timescaleShownSpec)) timescaleShownCard

/-- THE SECOND FORM's CARD OF 'wavestorelaw18.TimescaleTexts'. -/
def timescaleTextsUptoCard : Claim7 := { stood := { row := timescaleTextsUptoRow, standIns := [], harness := (true, "7b4c42421b649b896309fff9be7f0655acc08c48e529a79c64a123f0d01cb6e5"), looks := true }, kinds := [], alts := [], laidByText := true, laidKinds := [.data, .data, .data, .data, .sentinel, .sentinel, .pinned], laidTests := true, laidLooks := .later }
def TimescaleTextsUptoCardSaid : Prop := Claim7.holds Tryd.pinned (.plain (OpenSpec.upto timescaleTextsSpec)) timescaleTextsUptoCard

/-- THE SECOND FORM's CARD OF 'wavestorelaw18.TimescaleConverts'. -/
def timescaleConvertsUptoCard : Claim7 := { stood := { row := timescaleConvertsUptoRow, standIns := [], harness := (true, "7b4c42421b649b896309fff9be7f0655acc08c48e529a79c64a123f0d01cb6e5"), looks := true }, kinds := [], alts := [], laidByText := true, laidKinds := [.data, .data, .data, .data, .sentinel, .sentinel, .pinned], laidTests := true, laidLooks := .later }
def TimescaleConvertsUptoCardSaid : Prop := Claim7.holds Tryd.pinned (.plain (OpenSpec.upto timescaleConvertsSpec)) timescaleConvertsUptoCard

/-- THE SECOND FORM's CARD OF 'wavestorelaw18.TimescaleReads'. -/
def timescaleReadsUptoCard : Claim7 := { stood := { row := timescaleReadsUptoRow, standIns := [], harness := (true, "7b4c42421b649b896309fff9be7f0655acc08c48e529a79c64a123f0d01cb6e5"), looks := true }, kinds := [], alts := [], laidByText := true, laidKinds := [.data, .data, .data, .data, .sentinel, .sentinel, .pinned], laidTests := true, laidLooks := .later }
def TimescaleReadsUptoCardSaid : Prop := Claim7.holds Tryd.pinned (.plain (OpenSpec.upto timescaleReadsSpec)) timescaleReadsUptoCard

/-- THE SECOND FORM's CARD OF 'wavestorelaw18.TimescaleReturns'. -/
def timescaleReturnsUptoCard : Claim7 := { stood := { row := timescaleReturnsUptoRow, standIns := [], harness := (true, "7b4c42421b649b896309fff9be7f0655acc08c48e529a79c64a123f0d01cb6e5"), looks := true }, kinds := [], alts := [], laidByText := true, laidKinds := [.data, .data, .data, .data, .sentinel, .sentinel, .pinned], laidTests := true, laidLooks := .later }
def TimescaleReturnsUptoCardSaid : Prop := Claim7.holds Tryd.pinned (.plain (OpenSpec.upto timescaleReturnsSpec)) timescaleReturnsUptoCard

/-- THE SECOND FORM's CARD OF 'wavestorelaw18.TimescaleFloors'. -/
def timescaleFloorsUptoCard : Claim7 := { stood := { row := timescaleFloorsUptoRow, standIns := [], harness := (true, "7b4c42421b649b896309fff9be7f0655acc08c48e529a79c64a123f0d01cb6e5"), looks := true }, kinds := [], alts := [], laidByText := true, laidKinds := [.data, .data, .data, .data, .sentinel, .sentinel, .pinned], laidTests := true, laidLooks := .later }
def TimescaleFloorsUptoCardSaid : Prop := Claim7.holds Tryd.pinned (.plain (OpenSpec.upto timescaleFloorsSpec)) timescaleFloorsUptoCard

/-- THE SECOND FORM's CARD OF 'wavestorelaw18.TimescaleChains'. -/
def timescaleChainsUptoCard : Claim7 := { stood := { row := timescaleChainsUptoRow, standIns := [], harness := (true, "7b4c42421b649b896309fff9be7f0655acc08c48e529a79c64a123f0d01cb6e5"), looks := true }, kinds := [], alts := [], laidByText := true, laidKinds := [.data, .data, .data, .data, .sentinel, .sentinel, .pinned], laidTests := true, laidLooks := .later }
def TimescaleChainsUptoCardSaid : Prop := Claim7.holds Tryd.pinned (.plain (OpenSpec.upto timescaleChainsSpec)) timescaleChainsUptoCard

/-- THE SECOND FORM's CARD OF 'wavestorelaw18.TimescaleShown'. -/
def timescaleShownUptoCard : Claim7 := { stood := { row := timescaleShownUptoRow, standIns := [], harness := (true, "7b4c42421b649b896309fff9be7f0655acc08c48e529a79c64a123f0d01cb6e5"), looks := true }, kinds := [], alts := [], laidByText := true, laidKinds := [.data, .data, .data, .data, .sentinel, .sentinel, .pinned], laidTests := true, laidLooks := .later }
def TimescaleShownUptoCardSaid : Prop := Claim7.holds Tryd.pinned (.plain (OpenSpec.upto timescaleShownSpec)) timescaleShownUptoCard
end Rows
end Go.Proofs.YtglfnbhcdblpiaaDoor
