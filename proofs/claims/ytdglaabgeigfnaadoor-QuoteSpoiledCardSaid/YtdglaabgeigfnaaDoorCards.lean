/-
  DERIVED. GIVEN WITH THE SEED: THE CARDS: each row of YtdglaabgeigfnaaDoorRows.lean that lists a variable, with what it lists TIED to the program's text (the seventh form; the later family's looks); each row that meets fmt, with fmt's text TOLD by the authors' own Lean function (tested against real Go, not proved from fmt's source: count such statements apart). THE CARD IS WHAT COUNTS. Prove the row's statement (the work); the ties are given (YtdglaabgeigfnaaDoorTie.lean); close each card by the builder's one call (the guide's Derived/Test/ToyasCard.lean, 'card_holds'). Laid BY PROGRAM, IN A SANDBOX (cutbox-door.mjs). By AI agents, Wed Nov 11 2026. No macro, syntax, notation, axiom, sorry.
-/
import Derived.Test.YtdglaabgeigfnaaDoorRows
import GoSem.ClaimSeven
namespace Go.Proofs.YtdglaabgeigfnaaDoor
namespace Rows

/-- THE TIED CARD OF 'wavestorelaw16.QuoteForms'. -/
def quoteFormsCard : Claim7 := { stood := { row := quoteFormsRow, standIns := [], harness := (true, "16dd260f28ab8d7d69cd15ae29dfd144788eaaeca2900fc81bd678cfa4820931"), looks := false }, kinds := [], alts := [], laidByText := true, laidKinds := [.data, .pinned], laidTests := true, laidLooks := .later }
def QuoteFormsCardSaid : Prop := Claim7.holds Tryd.pinned (.plain (OpenSpec.ofChange quoteFormsSpec)) quoteFormsCard

/-- THE TIED CARD OF 'wavestorelaw16.QuoteWords'. -/
def quoteWordsCard : Claim7 := { stood := { row := quoteWordsRow, standIns := [], harness := (true, "16dd260f28ab8d7d69cd15ae29dfd144788eaaeca2900fc81bd678cfa4820931"), looks := false }, kinds := [], alts := [], laidByText := true, laidKinds := [.data, .pinned], laidTests := true, laidLooks := .later }
def QuoteWordsCardSaid : Prop := Claim7.holds Tryd.pinned (.plain (OpenSpec.ofChange quoteWordsSpec)) quoteWordsCard

/-- THE TIED CARD OF 'wavestorelaw16.QuoteReturns'. -/
def quoteReturnsCard : Claim7 := { stood := { row := quoteReturnsRow, standIns := [], harness := (true, "16dd260f28ab8d7d69cd15ae29dfd144788eaaeca2900fc81bd678cfa4820931"), looks := false }, kinds := [], alts := [], laidByText := true, laidKinds := [.data, .pinned], laidTests := true, laidLooks := .later }
def QuoteReturnsCardSaid : Prop := Claim7.holds Tryd.pinned (.plain (OpenSpec.ofChange quoteReturnsSpec)) quoteReturnsCard

/-- THE TIED CARD OF 'wavestorelaw16.QuotePrintable'. -/
def quotePrintableCard : Claim7 := { stood := { row := quotePrintableRow, standIns := [], harness := (true, "16dd260f28ab8d7d69cd15ae29dfd144788eaaeca2900fc81bd678cfa4820931"), looks := false }, kinds := [], alts := [], laidByText := true, laidKinds := [.data, .pinned], laidTests := true, laidLooks := .later }
def QuotePrintableCardSaid : Prop := Claim7.holds Tryd.pinned (.plain (OpenSpec.ofChange quotePrintableSpec)) quotePrintableCard

/-- THE TIED CARD OF 'wavestorelaw16.QuoteParts'. -/
def quotePartsCard : Claim7 := { stood := { row := quotePartsRow, standIns := [], harness := (true, "16dd260f28ab8d7d69cd15ae29dfd144788eaaeca2900fc81bd678cfa4820931"), looks := false }, kinds := [], alts := [], laidByText := true, laidKinds := [.data, .pinned], laidTests := true, laidLooks := .later }
def QuotePartsCardSaid : Prop := Claim7.holds Tryd.pinned (.plain (OpenSpec.ofChange quotePartsSpec)) quotePartsCard

/-- THE TIED CARD OF 'wavestorelaw16.QuoteJoins'. -/
def quoteJoinsCard : Claim7 := { stood := { row := quoteJoinsRow, standIns := [], harness := (true, "16dd260f28ab8d7d69cd15ae29dfd144788eaaeca2900fc81bd678cfa4820931"), looks := false }, kinds := [], alts := [], laidByText := true, laidKinds := [.data, .pinned], laidTests := true, laidLooks := .later }
def QuoteJoinsCardSaid : Prop := Claim7.holds Tryd.pinned (.plain (OpenSpec.ofChange quoteJoinsSpec)) quoteJoinsCard

/-- THE TIED CARD OF 'wavestorelaw16.QuoteSpoiled'. -/
def quoteSpoiledCard : Claim7 := { stood := { row := quoteSpoiledRow, standIns := [], harness := (true, "16dd260f28ab8d7d69cd15ae29dfd144788eaaeca2900fc81bd678cfa4820931"), looks := false }, kinds := [], alts := [], laidByText := true, laidKinds := [.data, .pinned], laidTests := true, laidLooks := .later }
def QuoteSpoiledCardSaid : Prop := Claim7.holds Tryd.pinned (.plain (OpenSpec.ofChange quoteSpoiledSpec)) quoteSpoiledCard

/-- THE SECOND FORM's CARD OF 'wavestorelaw16.QuoteForms'. -/
def quoteFormsUptoCard : Claim7 := { stood := { row := quoteFormsUptoRow, standIns := [], harness := (true, "16dd260f28ab8d7d69cd15ae29dfd144788eaaeca2900fc81bd678cfa4820931"), looks := false }, kinds := [], alts := [], laidByText := true, laidKinds := [.data, .pinned], laidTests := true, laidLooks := .later }
def QuoteFormsUptoCardSaid : Prop := Claim7.holds Tryd.pinned (.plain (OpenSpec.upto quoteFormsSpec)) quoteFormsUptoCard

/-- THE SECOND FORM's CARD OF 'wavestorelaw16.QuoteWords'. -/
def quoteWordsUptoCard : Claim7 := { stood := { row := quoteWordsUptoRow, standIns := [], harness := (true, "16dd260f28ab8d7d69cd15ae29dfd144788eaaeca2900fc81bd678cfa4820931"), looks := false }, kinds := [], alts := [], laidByText := true, laidKinds := [.data, .pinned], laidTests := true, laidLooks := .later }
def QuoteWordsUptoCardSaid : Prop := Claim7.holds Tryd.pinned (.plain (OpenSpec.upto quoteWordsSpec)) quoteWordsUptoCard

/-- THE SECOND FORM's CARD OF 'wavestorelaw16.QuoteReturns'. -/
def quoteReturnsUptoCard : Claim7 := { stood := { row := quoteReturnsUptoRow, standIns := [], harness := (true, "16dd260f28ab8d7d69cd15ae29dfd144788eaaeca2900fc81bd678cfa4820931"), looks := false }, kinds := [], alts := [], laidByText := true, laidKinds := [.data, .pinned], laidTests := true, laidLooks := .later }
def QuoteReturnsUptoCardSaid : Prop := Claim7.holds Tryd.pinned (.plain (OpenSpec.upto quoteReturnsSpec)) quoteReturnsUptoCard

/-- THE SECOND FORM's CARD OF 'wavestorelaw16.QuotePrintable'. -/
def quotePrintableUptoCard : Claim7 := { stood := { row := quotePrintableUptoRow, standIns := [], harness := (true, "16dd260f28ab8d7d69cd15ae29dfd144788eaaeca2900fc81bd678cfa4820931"), looks := false }, kinds := [], alts := [], laidByText := true, laidKinds := [.data, .pinned], laidTests := true, laidLooks := .later }
def QuotePrintableUptoCardSaid : Prop := Claim7.holds Tryd.pinned (.plain (OpenSpec.upto quotePrintableSpec)) quotePrintableUptoCard

/-- THE SECOND FORM's CARD OF 'wavestorelaw16.QuoteParts'. -/
def quotePartsUptoCard : Claim7 := { stood := { row := quotePartsUptoRow, standIns := [], harness := (true, "16dd260f28ab8d7d69cd15ae29dfd144788eaaeca2900fc81bd678cfa4820931"), looks := false }, kinds := [], alts := [], laidByText := true, laidKinds := [.data, .pinned], laidTests := true, laidLooks := .later }
def QuotePartsUptoCardSaid : Prop := Claim7.holds Tryd.pinned (.plain (OpenSpec.upto quotePartsSpec)) quotePartsUptoCard

/-- THE SECOND FORM's CARD OF 'wavestorelaw16.QuoteJoins'. -/
def quoteJoinsUptoCard : Claim7 := { stood := { row := quoteJoinsUptoRow, standIns := [], harness := (true, "16dd260f28ab8d7d69cd15ae29dfd144788eaaeca2900fc81bd678cfa4820931"), looks := false }, kinds := [], alts := [], laidByText := true, laidKinds := [.data, .pinned], laidTests := true, laidLooks := .later }
def QuoteJoinsUptoCardSaid : Prop := Claim7.holds Tryd.pinned (.plain (OpenSpec.upto quoteJoinsSpec)) quoteJoinsUptoCard

/-- THE SECOND FORM's CARD OF 'wavestorelaw16.QuoteSpoiled'. -/
def quoteSpoiledUptoCard : Claim7 := { stood := { row := quoteSpoiledUptoRow, standIns := [], harness := (true, "16dd260f28ab8d7d69cd15ae29dfd144788eaaeca2900fc81bd678cfa4820931"), looks := false }, kinds := [], alts := [], laidByText := true, laidKinds := [.data, .pinned], laidTests := true, laidLooks := .later }
def QuoteSpoiledUptoCardSaid : Prop := Claim7.holds Tryd.pinned (.plain (OpenSpec.upto quoteSpoiledSpec)) quoteSpoiledUptoCard
end Rows
end Go.Proofs.YtdglaabgeigfnaaDoor
