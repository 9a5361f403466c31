/-
  DERIVED. GIVEN WITH THE SEED: THE CARDS: each row of YtiibjeiadcmenaaDoorRows.lean that lists a variable, with what it lists TIED to the program's text (the seventh form; the later family's looks); each row that meets fmt, with fmt's text TOLD by the authors' own Lean function (tested against real Go, not proved from fmt's source: count such statements apart). THE CARD IS WHAT COUNTS. Prove the row's statement (the work); the ties are given (YtiibjeiadcmenaaDoorTie.lean); close each card by the builder's one call (the guide's Derived/Test/ToyasCard.lean, 'card_holds'). Laid BY PROGRAM, IN A SANDBOX (cutbox-door.mjs). By AI agents, Wed Nov 11 2026. No macro, syntax, notation, axiom, sorry.
-/
import Derived.Test.YtiibjeiadcmenaaDoorRows
import GoSem.ClaimSeven
namespace Go.Proofs.YtiibjeiadcmenaaDoor
namespace Rows

/-- THE TIED CARD OF 'wavestorelaw19.NameSpoiled'. -/
def nameSpoiledCard : Claim7 := { stood := { row := nameSpoiledRow, standIns := [], harness := (true, "d23f5041bba3f3ee2d4b86f848b862b06353c9ad480428480275e181d847f7d8"), looks := true }, kinds := [], alts := [], laidByText := true, laidKinds := [.data, .data, .data, .sentinel, .sentinel], laidTests := true, laidLooks := .later }
def NameSpoiledCardSaid : Prop := Claim7.holds Tryd.pinned (.plain (OpenSpec.ofChange nameSpoiledSpec)) nameSpoiledCard

/-- THE TIED CARD OF 'wavestorelaw19.NameWidths'. -/
def nameWidthsCard : Claim7 := { stood := { row := nameWidthsRow, standIns := [], harness := (true, "d23f5041bba3f3ee2d4b86f848b862b06353c9ad480428480275e181d847f7d8"), looks := true }, kinds := [], alts := [], laidByText := true, laidKinds := [.data, .data, .data, .sentinel, .sentinel], laidTests := true, laidLooks := .later }
def NameWidthsCardSaid : Prop := Claim7.holds Tryd.pinned (.plain (OpenSpec.ofChange nameWidthsSpec)) nameWidthsCard

/-- THE TIED CARD OF 'wavestorelaw19.NameForms'. -/
def nameFormsCard : Claim7 := { stood := { row := nameFormsRow, standIns := [], harness := (true, "d23f5041bba3f3ee2d4b86f848b862b06353c9ad480428480275e181d847f7d8"), looks := true }, kinds := [], alts := [], laidByText := true, laidKinds := [.data, .data, .data, .sentinel, .sentinel], laidTests := true, laidLooks := .later }
def NameFormsCardSaid : Prop := Claim7.holds Tryd.pinned (.plain (OpenSpec.ofChange nameFormsSpec)) nameFormsCard

/-- THE TIED CARD OF 'wavestorelaw19.NamePaths'. -/
def namePathsCard : Claim7 := { stood := { row := namePathsRow, standIns := [], harness := (true, "d23f5041bba3f3ee2d4b86f848b862b06353c9ad480428480275e181d847f7d8"), looks := true }, kinds := [], alts := [], laidByText := true, laidKinds := [.data, .data, .data, .sentinel, .sentinel], laidTests := true, laidLooks := .later }
def NamePathsCardSaid : Prop := Claim7.holds Tryd.pinned (.plain (OpenSpec.ofChange namePathsSpec)) namePathsCard

/-- THE TIED CARD OF 'wavestorelaw19.NameSplits'. -/
def nameSplitsCard : Claim7 := { stood := { row := nameSplitsRow, standIns := [], harness := (true, "d23f5041bba3f3ee2d4b86f848b862b06353c9ad480428480275e181d847f7d8"), looks := true }, kinds := [], alts := [], laidByText := true, laidKinds := [.data, .data, .data, .sentinel, .sentinel], laidTests := true, laidLooks := .later }
def NameSplitsCardSaid : Prop := Claim7.holds Tryd.pinned (.plain (OpenSpec.ofChange nameSplitsSpec)) nameSplitsCard

/-- THE TIED CARD OF 'wavestorelaw19.NameReferences'. -/
def nameReferencesCard : Claim7 := { stood := { row := nameReferencesRow, standIns := [], harness := (true, "d23f5041bba3f3ee2d4b86f848b862b06353c9ad480428480275e181d847f7d8"), looks := true }, kinds := [], alts := [], laidByText := true, laidKinds := [.data, .data, .data, .sentinel, .sentinel], laidTests := true, laidLooks := .later }
def NameReferencesCardSaid : Prop := Claim7.holds Tryd.pinned (.plain (OpenSpec.ofChange nameReferencesSpec)) nameReferencesCard

/-- THE TIED CARD OF 'wavestorelaw19.NameReturns'. -/
def nameReturnsCard : Claim7 := { stood := { row := nameReturnsRow, standIns := [], harness := (true, "d23f5041bba3f3ee2d4b86f848b862b06353c9ad480428480275e181d847f7d8"), looks := true }, kinds := [], alts := [], laidByText := true, laidKinds := [.data, .data, .data, .data, .sentinel, .sentinel, .pinned], laidTests := true, laidLooks := .later }
def NameReturnsCardSaid : Prop := Claim7.holds Tryd.pinned (.plain (OpenSpec.ofChange nameReturnsSpec)) nameReturnsCard

/-- THE SECOND FORM's CARD OF 'wavestorelaw19.NameSpoiled'. -/
def nameSpoiledUptoCard : Claim7 := { stood := { row := nameSpoiledUptoRow, standIns := [], harness := (true, "d23f5041bba3f3ee2d4b86f848b862b06353c9ad480428480275e181d847f7d8"), looks := true }, kinds := [], alts := [], laidByText := true, laidKinds := [.data, .data, .data, .sentinel, .sentinel], laidTests := true, laidLooks := .later }
def NameSpoiledUptoCardSaid : Prop := Claim7.holds Tryd.pinned (.plain (OpenSpec.upto nameSpoiledSpec)) nameSpoiledUptoCard

/-- THE SECOND FORM's CARD OF 'wavestorelaw19.NameWidths'. -/
def nameWidthsUptoCard : Claim7 := { stood := { row := nameWidthsUptoRow, standIns := [], harness := (true, "d23f5041bba3f3ee2d4b86f848b862b06353c9ad480428480275e181d847f7d8"), looks := true }, kinds := [], alts := [], laidByText := true, laidKinds := [.data, .data, .data, .sentinel, .sentinel], laidTests := true, laidLooks := .later }
def NameWidthsUptoCardSaid : Prop := Claim7.holds Tryd.pinned (.plain (OpenSpec.upto nameWidthsSpec)) nameWidthsUptoCard

/-- THE SECOND FORM's CARD OF 'wavestorelaw19.NameForms'. -/
def nameFormsUptoCard : Claim7 := { stood := { row := nameFormsUptoRow, standIns := [], harness := (true, "d23f5041bba3f3ee2d4b86f848b862b06353c9ad480428480275e181d847f7d8"), looks := true }, kinds := [], alts := [], laidByText := true, laidKinds := [.data, .data, .data, .sentinel, .sentinel], laidTests := true, laidLooks := .later }
def NameFormsUptoCardSaid : Prop := Claim7.holds Tryd.pinned (.plain (OpenSpec.upto nameFormsSpec)) nameFormsUptoCard

/-- THE SECOND FORM's CARD OF 'wavestorelaw19.NamePaths'. -/
def namePathsUptoCard : Claim7 := { stood := { row := namePathsUptoRow, standIns := [], harness := (true, "d23f5041bba3f3ee2d4b86f848b862b06353c9ad480428480275e181d847f7d8"), looks := true }, kinds := [], alts := [], laidByText := true, laidKinds := [.data, .data, .data, .sentinel, .sentinel], laidTests := true, laidLooks := .later }
def NamePathsUptoCardSaid : Prop := Claim7.holds Tryd.pinned (.plain (OpenSpec.upto namePathsSpec)) namePathsUptoCard

/-- THE SECOND FORM's CARD OF 'wavestorelaw19.NameSplits'. -/
def nameSplitsUptoCard : Claim7 := { stood := { row := nameSplitsUptoRow, standIns := [], harness := (true, "d23f5041bba3f3ee2d4b86f848b862b06353c9ad480428480275e181d847f7d8"), looks := true }, kinds := [], alts := [], laidByText := true, laidKinds := [.data, .data, .data, .sentinel, .sentinel], laidTests := true, laidLooks := .later }
def NameSplitsUptoCardSaid : Prop := Claim7.holds Tryd.pinned (.plain (OpenSpec.upto nameSplitsSpec)) nameSplitsUptoCard

/-- THE SECOND FORM's CARD OF 'wavestorelaw19.NameReferences'. -/
def nameReferencesUptoCard : Claim7 := { stood := { row := nameReferencesUptoRow, standIns := [], harness := (true, "d23f5041bba3f3ee2d4b86f848b862b06353c9ad480428480275e181d847f7d8"), looks := true }, kinds := [], alts := [], laidByText := true, laidKinds := [.data, .data, .data, .sentinel, .sentinel], laidTests := true, laidLooks := .later }
def NameReferencesUptoCardSaid : Prop := Claim7.holds Tryd.pinned (.plain (OpenSpec.upto nameReferencesSpec)) nameReferencesUptoCard

/-- THE SECOND FORM's CARD OF 'wavestorelaw19.NameReturns'. -/
def nameReturnsUptoCard : Claim7 := { stood := { row := nameReturnsUptoRow, standIns := [], harness := (true, "d23f5041bba3f3ee2d4b86f848b862b06353c9ad480428480275e181d847f7d8"), looks := true }, kinds := [], alts := [], laidByText := true, laidKinds := [.data, .data, .data, .data, .sentinel, .sentinel, .pinned], laidTests := true, laidLooks := .later }
def NameReturnsUptoCardSaid : Prop := Claim7.holds Tryd.pinned (.plain (OpenSpec.upto nameReturnsSpec)) nameReturnsUptoCard
end Rows
end Go.Proofs.YtiibjeiadcmenaaDoor
