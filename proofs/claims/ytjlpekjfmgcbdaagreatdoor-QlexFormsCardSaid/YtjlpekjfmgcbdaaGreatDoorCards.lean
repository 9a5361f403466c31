/-
  DERIVED. GIVEN WITH THE SEED: THE CARDS: each row of YtjlpekjfmgcbdaaGreatDoorRows.lean that lists a variable, with what it lists TIED to the program's text (the seventh form; the later family's looks); each row that meets fmt, with fmt's text TOLD by the authors' own Lean function (tested against real Go, not proved from fmt's source: count such statements apart). THE CARD IS WHAT COUNTS. Prove the row's statement (the work); the ties are given (YtjlpekjfmgcbdaaGreatDoorTie.lean); close each card by the builder's one call (the guide's Derived/Test/ToyasCard.lean, 'card_holds'). Laid BY PROGRAM, IN A SANDBOX (cutbox-door.mjs). By AI agents, Wed Nov 11 2026. No macro, syntax, notation, axiom, sorry.
-/
import Derived.Test.YtjlpekjfmgcbdaaGreatDoorRows
import GoSem.ClaimSeven
namespace Go.Proofs.YtjlpekjfmgcbdaaGreatDoor
namespace Rows

/-- THE TIED CARD OF 'wavestorelaw48.QlexLexes'. -/
def qlexLexesCard : Claim7 := { stood := { row := qlexLexesRow, standIns := [], harness := (true, "6715a311f84f5a36f45b160bc0d04c1999dbcbffa736bdb91984f85bd201a8c1"), looks := false }, kinds := [], alts := [], laidByText := true, laidKinds := [.data, .data, .data, .data, .pinned], laidTests := true, laidLooks := .later }
def QlexLexesCardSaid : Prop := Claim7.holds Tryz.pinned (.plain (OpenSpec.ofChange qlexLexesSpec)) qlexLexesCard

/-- THE TIED CARD OF 'wavestorelaw48.QlexBits'. -/
def qlexBitsCard : Claim7 := { stood := { row := qlexBitsRow, standIns := [], harness := (true, "6715a311f84f5a36f45b160bc0d04c1999dbcbffa736bdb91984f85bd201a8c1"), looks := false }, kinds := [], alts := [], laidByText := true, laidKinds := [.data, .data, .data, .data, .pinned], laidTests := true, laidLooks := .later }
def QlexBitsCardSaid : Prop := Claim7.holds Tryz.pinned (.plain (OpenSpec.ofChange qlexBitsSpec)) qlexBitsCard

/-- THE TIED CARD OF 'wavestorelaw48.QlexQuotes'. -/
def qlexQuotesCard : Claim7 := { stood := { row := qlexQuotesRow, standIns := [], harness := (true, "6715a311f84f5a36f45b160bc0d04c1999dbcbffa736bdb91984f85bd201a8c1"), looks := false }, kinds := [], alts := [], laidByText := true, laidKinds := [.data, .data, .data, .data, .pinned], laidTests := true, laidLooks := .later }
def QlexQuotesCardSaid : Prop := Claim7.holds Tryz.pinned (.plain (OpenSpec.ofChange qlexQuotesSpec)) qlexQuotesCard

/-- THE TIED CARD OF 'wavestorelaw48.QlexStrings'. -/
def qlexStringsCard : Claim7 := { stood := { row := qlexStringsRow, standIns := [], harness := (true, "6715a311f84f5a36f45b160bc0d04c1999dbcbffa736bdb91984f85bd201a8c1"), looks := false }, kinds := [], alts := [], laidByText := true, laidKinds := [.data, .data, .data, .data, .pinned], laidTests := true, laidLooks := .later }
def QlexStringsCardSaid : Prop := Claim7.holds Tryz.pinned (.plain (OpenSpec.ofChange qlexStringsSpec)) qlexStringsCard

/-- THE TIED CARD OF 'wavestorelaw48.QlexAgain'. -/
def qlexAgainCard : Claim7 := { stood := { row := qlexAgainRow, standIns := [], harness := (true, "6715a311f84f5a36f45b160bc0d04c1999dbcbffa736bdb91984f85bd201a8c1"), looks := false }, kinds := [], alts := [], laidByText := true, laidKinds := [.data, .data, .data, .data, .pinned], laidTests := true, laidLooks := .later }
def QlexAgainCardSaid : Prop := Claim7.holds Tryz.pinned (.plain (OpenSpec.ofChange qlexAgainSpec)) qlexAgainCard

/-- THE TIED CARD OF 'wavestorelaw48.QlexForms'. -/
def qlexFormsCard : Claim7 := { stood := { row := qlexFormsRow, standIns := [], harness := (true, "6715a311f84f5a36f45b160bc0d04c1999dbcbffa736bdb91984f85bd201a8c1"), looks := false }, kinds := [], alts := [], laidByText := true, laidKinds := [.data, .data, .data, .data, .pinned], laidTests := true, laidLooks := .later }
def QlexFormsCardSaid : Prop := Claim7.holds Tryz.pinned (.plain (OpenSpec.ofChange qlexFormsSpec)) qlexFormsCard

/-- THE SECOND FORM's CARD OF 'wavestorelaw48.QlexLexes'. -/
def qlexLexesUptoCard : Claim7 := { stood := { row := qlexLexesUptoRow, standIns := [], harness := (true, "6715a311f84f5a36f45b160bc0d04c1999dbcbffa736bdb91984f85bd201a8c1"), looks := false }, kinds := [], alts := [], laidByText := true, laidKinds := [.data, .data, .data, .data, .pinned], laidTests := true, laidLooks := .later }
def QlexLexesUptoCardSaid : Prop := Claim7.holds Tryz.pinned (.plain (OpenSpec.upto qlexLexesSpec)) qlexLexesUptoCard

/-- THE SECOND FORM's CARD OF 'wavestorelaw48.QlexBits'. -/
def qlexBitsUptoCard : Claim7 := { stood := { row := qlexBitsUptoRow, standIns := [], harness := (true, "6715a311f84f5a36f45b160bc0d04c1999dbcbffa736bdb91984f85bd201a8c1"), looks := false }, kinds := [], alts := [], laidByText := true, laidKinds := [.data, .data, .data, .data, .pinned], laidTests := true, laidLooks := .later }
def QlexBitsUptoCardSaid : Prop := Claim7.holds Tryz.pinned (.plain (OpenSpec.upto qlexBitsSpec)) qlexBitsUptoCard

/-- THE SECOND FORM's CARD OF 'wavestorelaw48.QlexQuotes'. -/
def qlexQuotesUptoCard : Claim7 := { stood := { row := qlexQuotesUptoRow, standIns := [], harness := (true, "6715a311f84f5a36f45b160bc0d04c1999dbcbffa736bdb91984f85bd201a8c1"), looks := false }, kinds := [], alts := [], laidByText := true, laidKinds := [.data, .data, .data, .data, .pinned], laidTests := true, laidLooks := .later }
def QlexQuotesUptoCardSaid : Prop := Claim7.holds Tryz.pinned (.plain (OpenSpec.upto qlexQuotesSpec)) qlexQuotesUptoCard

/-- THE SECOND FORM's CARD OF 'wavestorelaw48.QlexStrings'. -/
def qlexStringsUptoCard : Claim7 := { stood := { row := qlexStringsUptoRow, standIns := [], harness := (true, "6715a311f84f5a36f45b160bc0d04c1999dbcbffa736bdb91984f85bd201a8c1"), looks := false }, kinds := [], alts := [], laidByText := true, laidKinds := [.data, .data, .data, .data, .pinned], laidTests := true, laidLooks := .later }
def QlexStringsUptoCardSaid : Prop := Claim7.holds Tryz.pinned (.plain (OpenSpec.upto qlexStringsSpec)) qlexStringsUptoCard

/-- THE SECOND FORM's CARD OF 'wavestorelaw48.QlexAgain'. -/
def qlexAgainUptoCard : Claim7 := { stood := { row := qlexAgainUptoRow, standIns := [], harness := (true, "6715a311f84f5a36f45b160bc0d04c1999dbcbffa736bdb91984f85bd201a8c1"), looks := false }, kinds := [], alts := [], laidByText := true, laidKinds := [.data, .data, .data, .data, .pinned], laidTests := true, laidLooks := .later }
def QlexAgainUptoCardSaid : Prop := Claim7.holds Tryz.pinned (.plain (OpenSpec.upto qlexAgainSpec)) qlexAgainUptoCard

/-- THE SECOND FORM's CARD OF 'wavestorelaw48.QlexForms'. -/
def qlexFormsUptoCard : Claim7 := { stood := { row := qlexFormsUptoRow, standIns := [], harness := (true, "6715a311f84f5a36f45b160bc0d04c1999dbcbffa736bdb91984f85bd201a8c1"), looks := false }, kinds := [], alts := [], laidByText := true, laidKinds := [.data, .data, .data, .data, .pinned], laidTests := true, laidLooks := .later }
def QlexFormsUptoCardSaid : Prop := Claim7.holds Tryz.pinned (.plain (OpenSpec.upto qlexFormsSpec)) qlexFormsUptoCard
end Rows
end Go.Proofs.YtjlpekjfmgcbdaaGreatDoor
