/-
  DERIVED. GIVEN WITH THE SEED: THE CARDS: each row of YtpjikbfeegncbaaGreatDoorRows.lean that lists a variable, with what it lists TIED to the program's text (the seventh form; the later family's looks); each row that meets fmt, with fmt's text TOLD by the authors' own Lean function (tested against real Go, not proved from fmt's source: count such statements apart). THE CARD IS WHAT COUNTS. Prove the row's statement (the work); the ties are given (YtpjikbfeegncbaaGreatDoorTie.lean); close each card by the builder's one call (the guide's Derived/Test/ToyasCard.lean, 'card_holds'). Laid BY PROGRAM, IN A SANDBOX (cutbox-door.mjs). By AI agents, Wed Nov 11 2026. No macro, syntax, notation, axiom, sorry.
-/
import Derived.Test.YtpjikbfeegncbaaGreatDoorRows
import GoSem.ClaimSeven
namespace Go.Proofs.YtpjikbfeegncbaaGreatDoor
namespace Rows

/-- THE TIED CARD OF 'wavestorelaw17.ValueForms'. -/
def valueFormsCard : Claim7 := { stood := { row := valueFormsRow, standIns := [], harness := (true, "aeb0f01e499b34138dfe955e8bd964d984d75f2bf146c2768ff1088acde5c6c4"), looks := false }, kinds := [], alts := [], laidByText := true, laidKinds := [.data, .data, .data, .data, .pinned], laidTests := true, laidLooks := .later }
def ValueFormsCardSaid : Prop := Claim7.holds Tryz.pinned (.plain (OpenSpec.ofChange valueFormsSpec)) valueFormsCard

/-- THE TIED CARD OF 'wavestorelaw17.ValueParses'. -/
def valueParsesCard : Claim7 := { stood := { row := valueParsesRow, standIns := [], harness := (true, "aeb0f01e499b34138dfe955e8bd964d984d75f2bf146c2768ff1088acde5c6c4"), looks := false }, kinds := [], alts := [], laidByText := true, laidKinds := [.data, .data, .data, .data, .pinned], laidTests := true, laidLooks := .later }
def ValueParsesCardSaid : Prop := Claim7.holds Tryz.pinned (.plain (OpenSpec.ofChange valueParsesSpec)) valueParsesCard

/-- THE TIED CARD OF 'wavestorelaw17.ValueCommands'. -/
def valueCommandsCard : Claim7 := { stood := { row := valueCommandsRow, standIns := [], harness := (true, "aeb0f01e499b34138dfe955e8bd964d984d75f2bf146c2768ff1088acde5c6c4"), looks := false }, kinds := [], alts := [], laidByText := true, laidKinds := [.data, .data, .data, .data, .pinned], laidTests := true, laidLooks := .later }
def ValueCommandsCardSaid : Prop := Claim7.holds Tryz.pinned (.plain (OpenSpec.ofChange valueCommandsSpec)) valueCommandsCard

/-- THE TIED CARD OF 'wavestorelaw17.ValueInitial'. -/
def valueInitialCard : Claim7 := { stood := { row := valueInitialRow, standIns := [], harness := (true, "aeb0f01e499b34138dfe955e8bd964d984d75f2bf146c2768ff1088acde5c6c4"), looks := false }, kinds := [], alts := [], laidByText := true, laidKinds := [.data, .data, .data, .data, .pinned], laidTests := true, laidLooks := .later }
def ValueInitialCardSaid : Prop := Claim7.holds Tryz.pinned (.plain (OpenSpec.ofChange valueInitialSpec)) valueInitialCard

/-- THE TIED CARD OF 'wavestorelaw17.ValueExtends'. -/
def valueExtendsCard : Claim7 := { stood := { row := valueExtendsRow, standIns := [], harness := (true, "aeb0f01e499b34138dfe955e8bd964d984d75f2bf146c2768ff1088acde5c6c4"), looks := false }, kinds := [], alts := [], laidByText := true, laidKinds := [.data, .data, .data, .data, .pinned, .pinned], laidTests := true, laidLooks := .later }
def ValueExtendsCardSaid : Prop := Claim7.holds Tryz.pinned (.plain (OpenSpec.ofChange valueExtendsSpec)) valueExtendsCard

/-- THE TIED CARD OF 'wavestorelaw17.ValueShortest'. -/
def valueShortestCard : Claim7 := { stood := { row := valueShortestRow, standIns := [], harness := (true, "aeb0f01e499b34138dfe955e8bd964d984d75f2bf146c2768ff1088acde5c6c4"), looks := false }, kinds := [], alts := [], laidByText := true, laidKinds := [.data, .data, .data, .data, .pinned, .pinned], laidTests := true, laidLooks := .later }
def ValueShortestCardSaid : Prop := Claim7.holds Tryz.pinned (.plain (OpenSpec.ofChange valueShortestSpec)) valueShortestCard

/-- THE SECOND FORM's CARD OF 'wavestorelaw17.ValueForms'. -/
def valueFormsUptoCard : Claim7 := { stood := { row := valueFormsUptoRow, standIns := [], harness := (true, "aeb0f01e499b34138dfe955e8bd964d984d75f2bf146c2768ff1088acde5c6c4"), looks := false }, kinds := [], alts := [], laidByText := true, laidKinds := [.data, .data, .data, .data, .pinned], laidTests := true, laidLooks := .later }
def ValueFormsUptoCardSaid : Prop := Claim7.holds Tryz.pinned (.plain (OpenSpec.upto valueFormsSpec)) valueFormsUptoCard

/-- THE SECOND FORM's CARD OF 'wavestorelaw17.ValueParses'. -/
def valueParsesUptoCard : Claim7 := { stood := { row := valueParsesUptoRow, standIns := [], harness := (true, "aeb0f01e499b34138dfe955e8bd964d984d75f2bf146c2768ff1088acde5c6c4"), looks := false }, kinds := [], alts := [], laidByText := true, laidKinds := [.data, .data, .data, .data, .pinned], laidTests := true, laidLooks := .later }
def ValueParsesUptoCardSaid : Prop := Claim7.holds Tryz.pinned (.plain (OpenSpec.upto valueParsesSpec)) valueParsesUptoCard

/-- THE SECOND FORM's CARD OF 'wavestorelaw17.ValueCommands'. -/
def valueCommandsUptoCard : Claim7 := { stood := { row := valueCommandsUptoRow, standIns := [], harness := (true, "aeb0f01e499b34138dfe955e8bd964d984d75f2bf146c2768ff1088acde5c6c4"), looks := false }, kinds := [], alts := [], laidByText := true, laidKinds := [.data, .data, .data, .data, .pinned], laidTests := true, laidLooks := .later }
def ValueCommandsUptoCardSaid : Prop := Claim7.holds Tryz.pinned (.plain (OpenSpec.upto valueCommandsSpec)) valueCommandsUptoCard

/-- THE SECOND FORM's CARD OF 'wavestorelaw17.ValueInitial'. -/
def valueInitialUptoCard : Claim7 := { stood := { row := valueInitialUptoRow, standIns := [], harness := (true, "aeb0f01e499b34138dfe955e8bd964d984d75f2bf146c2768ff1088acde5c6c4"), looks := false }, kinds := [], alts := [], laidByText := true, laidKinds := [.data, .data, .data, .data, .pinned], laidTests := true, laidLooks := .later }
def ValueInitialUptoCardSaid : Prop := Claim7.holds Tryz.pinned (.plain (OpenSpec.upto valueInitialSpec)) valueInitialUptoCard

/-- THE SECOND FORM's CARD OF 'wavestorelaw17.ValueExtends'. -/
def valueExtendsUptoCard : Claim7 := { stood := { row := valueExtendsUptoRow, standIns := [], harness := (true, "aeb0f01e499b34138dfe955e8bd964d984d75f2bf146c2768ff1088acde5c6c4"), looks := false }, kinds := [], alts := [], laidByText := true, laidKinds := [.data, .data, .data, .data, .pinned, .pinned], laidTests := true, laidLooks := .later }
def ValueExtendsUptoCardSaid : Prop := Claim7.holds Tryz.pinned (.plain (OpenSpec.upto valueExtendsSpec)) valueExtendsUptoCard

/-- THE SECOND FORM's CARD OF 'wavestorelaw17.ValueShortest'. -/
def valueShortestUptoCard : Claim7 := { stood := { row := valueShortestUptoRow, standIns := [], harness := (true, "aeb0f01e499b34138dfe955e8bd964d984d75f2bf146c2768ff1088acde5c6c4"), looks := false }, kinds := [], alts := [], laidByText := true, laidKinds := [.data, .data, .data, .data, .pinned, .pinned], laidTests := true, laidLooks := .later }
def ValueShortestUptoCardSaid : Prop := Claim7.holds Tryz.pinned (.plain (OpenSpec.upto valueShortestSpec)) valueShortestUptoCard
end Rows
end Go.Proofs.YtpjikbfeegncbaaGreatDoor
