/-
  NARROWER THAN 'FOR EVERY INPUT', by the rows' own cells (each row's printed sentence says how): QuoteForms: laid · QuoteWords: laid · QuoteReturns: laid · QuotePrintable: laid · QuoteParts: laid · QuoteJoins: laid · QuoteSpoiled: laid.
  DERIVED. THE GIVEN ROWS OF THIS SEAT. 7 by the template 'for every input the law returns true; each argument reads behind the call as it read before'; 0 by the template 'total and deterministic' (their statements: YtdglaabgeigfnaaDoorTotals.lean).
  GIVEN WITH THE SEED: the statements are not yours to turn. If you find one false, say at which input.
  Laid BY PROGRAM, IN A SANDBOX (cutbox-rows.mjs): the forced cells as the released guide's own fill.sh prints them over the translation 097aea1aba4504f8… (all of the seat's roots in one cut). By AI agents, Wed Nov 11 2026. No macro, syntax, notation, axiom, sorry.
-/
import Derived.Test.YtdglaabgeigfnaaDoorChecked
import GoSem.PinnedTables
import GoSem.Claim
import GoSem.ClaimJoined
import GoSem.ClaimMapViews
import Derived.JoinedTies
import Derived.KernelRfl
namespace Go.Proofs.YtdglaabgeigfnaaDoor
/- THE CELL 'sum', in the pinned program and in every row, IS THE sha256 OF THE DUMP (.gsa) THAT YtdglaabgeigfnaaDoorProg.lean LOADS. Nothing in Lean hashes anything: it is a label: what it is worth is what the hold of that sum in a sandbox is worth. -/
noncomputable def Tryd.pinned : Pinned := { name := "ytdglaabgeigfnaadoor", sum := "097aea1aba4504f8d0d3c44105f5932558340a3737f8a5f1db390d6816031dcc", checked := Tryd.checked }
namespace Rows
def none {H : Type} : Left H := { results := [], args := [] }

/- WHAT THE LISTED PACKAGE-LEVEL VARIABLES READ AS WHEN THE CALL BEGINS. Each datum BY PROGRAM (the guide's laid-datum.mjs) off the statement by which the dump's own 'gosem.cut.vars' lays the variable. In a bare row this is a premise. The card (YtdglaabgeigfnaaDoorCards.lean) ties it to the program's text. -/
def laid_unicode_utf8_acceptRanges {H : Type} : DataW H := .agg [.agg [.lit (.int .u8 128), .lit (.int .u8 191)], .agg [.lit (.int .u8 160), .lit (.int .u8 191)], .agg [.lit (.int .u8 128), .lit (.int .u8 159)], .agg [.lit (.int .u8 144), .lit (.int .u8 191)], .agg [.lit (.int .u8 128), .lit (.int .u8 143)], .agg [.lit (.int .u8 0), .lit (.int .u8 0)], .agg [.lit (.int .u8 0), .lit (.int .u8 0)], .agg [.lit (.int .u8 0), .lit (.int .u8 0)], .agg [.lit (.int .u8 0), .lit (.int .u8 0)], .agg [.lit (.int .u8 0), .lit (.int .u8 0)], .agg [.lit (.int .u8 0), .lit (.int .u8 0)], .agg [.lit (.int .u8 0), .lit (.int .u8 0)], .agg [.lit (.int .u8 0), .lit (.int .u8 0)], .agg [.lit (.int .u8 0), .lit (.int .u8 0)], .agg [.lit (.int .u8 0), .lit (.int .u8 0)], .agg [.lit (.int .u8 0), .lit (.int .u8 0)]]
/-- One of Go's own tables, pinned by name: the form's constant. -/
def laid_unicode_utf8_first : DataW Unit := Go.Pinned.utf8First

/-- 'wavestorelaw16.QuoteForms': WHATEVER THE INPUT: true; the input reads as it did. -/
def quoteFormsSpec : ChangeSpec := { name := "quoteForms", fn := fun _ => fun
  | [d1, d2] => { results := [.lit (.bool true)], args := [d1, d2] }
  | _ => none }
def quoteFormsRow : OpenClaim := { program := "ytdglaabgeigfnaadoor", sum := "097aea1aba4504f8d0d3c44105f5932558340a3737f8a5f1db390d6816031dcc", func := "wavestore/wavestorelaw16.QuoteForms", spec := "quoteForms", inPlace := ["internal/bytealg.IndexByteString", "internal/abi.NoEscape", "internal/bytealg.MakeNoZero", "internal/bytealg.CountString", "internal/bytealg.IndexString"], named := ["unicode/utf8.first", "unicode/utf8.acceptRanges", "internal/bytealg.MaxLen"], apart := false, laid := [("unicode/utf8.acceptRanges", laid_unicode_utf8_acceptRanges), ("unicode/utf8.first", laid_unicode_utf8_first)] }
def QuoteFormsSaid : Prop := quoteFormsRow.holds Tryd.pinned (OpenSpec.ofChange quoteFormsSpec)

/-- ITS FALSE NEIGHBOUR: 'it returns false'. Refute it at one input. -/
def quoteFormsWrong : ChangeSpec := { name := "quoteForms", fn := fun _ => fun
  | [d1, d2] => { results := [.lit (.bool false)], args := [d1, d2] }
  | _ => none }
def QuoteFormsWrongFalsely : Prop := quoteFormsRow.holds Tryd.pinned (OpenSpec.ofChange quoteFormsWrong)

/-- 'wavestorelaw16.QuoteWords': WHATEVER THE INPUT: true; the input reads as it did. -/
def quoteWordsSpec : ChangeSpec := { name := "quoteWords", fn := fun _ => fun
  | [d1, d2] => { results := [.lit (.bool true)], args := [d1, d2] }
  | _ => none }
def quoteWordsRow : OpenClaim := { program := "ytdglaabgeigfnaadoor", sum := "097aea1aba4504f8d0d3c44105f5932558340a3737f8a5f1db390d6816031dcc", func := "wavestore/wavestorelaw16.QuoteWords", spec := "quoteWords", inPlace := ["internal/bytealg.IndexByteString", "internal/abi.NoEscape", "internal/bytealg.MakeNoZero", "internal/bytealg.CountString", "internal/bytealg.IndexString"], named := ["unicode/utf8.first", "unicode/utf8.acceptRanges", "internal/bytealg.MaxLen"], apart := false, laid := [("unicode/utf8.acceptRanges", laid_unicode_utf8_acceptRanges), ("unicode/utf8.first", laid_unicode_utf8_first)] }
def QuoteWordsSaid : Prop := quoteWordsRow.holds Tryd.pinned (OpenSpec.ofChange quoteWordsSpec)

/-- ITS FALSE NEIGHBOUR: 'it returns false'. Refute it at one input. -/
def quoteWordsWrong : ChangeSpec := { name := "quoteWords", fn := fun _ => fun
  | [d1, d2] => { results := [.lit (.bool false)], args := [d1, d2] }
  | _ => none }
def QuoteWordsWrongFalsely : Prop := quoteWordsRow.holds Tryd.pinned (OpenSpec.ofChange quoteWordsWrong)

/-- 'wavestorelaw16.QuoteReturns': WHATEVER THE INPUT: true; the input reads as it did. -/
def quoteReturnsSpec : ChangeSpec := { name := "quoteReturns", fn := fun _ => fun
  | [d] => { results := [.lit (.bool true)], args := [d] }
  | _ => none }
def quoteReturnsRow : OpenClaim := { program := "ytdglaabgeigfnaadoor", sum := "097aea1aba4504f8d0d3c44105f5932558340a3737f8a5f1db390d6816031dcc", func := "wavestore/wavestorelaw16.QuoteReturns", spec := "quoteReturns", inPlace := ["internal/bytealg.IndexByteString", "internal/abi.NoEscape", "internal/bytealg.MakeNoZero", "internal/bytealg.CountString", "internal/bytealg.IndexString"], named := ["unicode/utf8.first", "unicode/utf8.acceptRanges", "internal/bytealg.MaxLen"], apart := false, laid := [("unicode/utf8.acceptRanges", laid_unicode_utf8_acceptRanges), ("unicode/utf8.first", laid_unicode_utf8_first)] }
def QuoteReturnsSaid : Prop := quoteReturnsRow.holds Tryd.pinned (OpenSpec.ofChange quoteReturnsSpec)

/-- ITS FALSE NEIGHBOUR: 'it returns false'. Refute it at one input. -/
def quoteReturnsWrong : ChangeSpec := { name := "quoteReturns", fn := fun _ => fun
  | [d] => { results := [.lit (.bool false)], args := [d] }
  | _ => none }
def QuoteReturnsWrongFalsely : Prop := quoteReturnsRow.holds Tryd.pinned (OpenSpec.ofChange quoteReturnsWrong)

/-- 'wavestorelaw16.QuotePrintable': WHATEVER THE INPUT: true; the input reads as it did. -/
def quotePrintableSpec : ChangeSpec := { name := "quotePrintable", fn := fun _ => fun
  | [d1, d2] => { results := [.lit (.bool true)], args := [d1, d2] }
  | _ => none }
def quotePrintableRow : OpenClaim := { program := "ytdglaabgeigfnaadoor", sum := "097aea1aba4504f8d0d3c44105f5932558340a3737f8a5f1db390d6816031dcc", func := "wavestore/wavestorelaw16.QuotePrintable", spec := "quotePrintable", inPlace := ["internal/bytealg.IndexByteString", "internal/abi.NoEscape", "internal/bytealg.MakeNoZero", "internal/bytealg.CountString", "internal/bytealg.IndexString"], named := ["unicode/utf8.first", "unicode/utf8.acceptRanges", "internal/bytealg.MaxLen"], apart := false, laid := [("unicode/utf8.acceptRanges", laid_unicode_utf8_acceptRanges), ("unicode/utf8.first", laid_unicode_utf8_first)] }
def QuotePrintableSaid : Prop := quotePrintableRow.holds Tryd.pinned (OpenSpec.ofChange quotePrintableSpec)

/-- ITS FALSE NEIGHBOUR: 'it returns false'. Refute it at one input. -/
def quotePrintableWrong : ChangeSpec := { name := "quotePrintable", fn := fun _ => fun
  | [d1, d2] => { results := [.lit (.bool false)], args := [d1, d2] }
  | _ => none }
def QuotePrintableWrongFalsely : Prop := quotePrintableRow.holds Tryd.pinned (OpenSpec.ofChange quotePrintableWrong)

/-- 'wavestorelaw16.QuoteParts': WHATEVER THE INPUT: true; the input reads as it did. -/
def quotePartsSpec : ChangeSpec := { name := "quoteParts", fn := fun _ => fun
  | [d1, d2, d3, d4] => { results := [.lit (.bool true)], args := [d1, d2, d3, d4] }
  | _ => none }
def quotePartsRow : OpenClaim := { program := "ytdglaabgeigfnaadoor", sum := "097aea1aba4504f8d0d3c44105f5932558340a3737f8a5f1db390d6816031dcc", func := "wavestore/wavestorelaw16.QuoteParts", spec := "quoteParts", inPlace := ["internal/bytealg.IndexByteString", "internal/abi.NoEscape", "internal/bytealg.MakeNoZero", "internal/bytealg.CountString", "internal/bytealg.IndexString"], named := ["unicode/utf8.first", "unicode/utf8.acceptRanges", "internal/bytealg.MaxLen"], apart := false, laid := [("unicode/utf8.acceptRanges", laid_unicode_utf8_acceptRanges), ("unicode/utf8.first", laid_unicode_utf8_first)] }
def QuotePartsSaid : Prop := quotePartsRow.holds Tryd.pinned (OpenSpec.ofChange quotePartsSpec)

/-- ITS FALSE NEIGHBOUR: 'it returns false'. Refute it at one input. -/
def quotePartsWrong : ChangeSpec := { name := "quoteParts", fn := fun _ => fun
  | [d1, d2, d3, d4] => { results := [.lit (.bool false)], args := [d1, d2, d3, d4] }
  | _ => none }
def QuotePartsWrongFalsely : Prop := quotePartsRow.holds Tryd.pinned (OpenSpec.ofChange quotePartsWrong)

/-- 'wavestorelaw16.QuoteJoins': WHATEVER THE INPUT: true; the input reads as it did. -/
def quoteJoinsSpec : ChangeSpec := { name := "quoteJoins", fn := fun _ => fun
  | [d1, d2] => { results := [.lit (.bool true)], args := [d1, d2] }
  | _ => none }
def quoteJoinsRow : OpenClaim := { program := "ytdglaabgeigfnaadoor", sum := "097aea1aba4504f8d0d3c44105f5932558340a3737f8a5f1db390d6816031dcc", func := "wavestore/wavestorelaw16.QuoteJoins", spec := "quoteJoins", inPlace := ["internal/bytealg.IndexByteString", "internal/abi.NoEscape", "internal/bytealg.MakeNoZero", "internal/bytealg.CountString", "internal/bytealg.IndexString"], named := ["unicode/utf8.first", "unicode/utf8.acceptRanges", "internal/bytealg.MaxLen"], apart := false, laid := [("unicode/utf8.acceptRanges", laid_unicode_utf8_acceptRanges), ("unicode/utf8.first", laid_unicode_utf8_first)] }
def QuoteJoinsSaid : Prop := quoteJoinsRow.holds Tryd.pinned (OpenSpec.ofChange quoteJoinsSpec)

/-- ITS FALSE NEIGHBOUR: 'it returns false'. Refute it at one input. -/
def quoteJoinsWrong : ChangeSpec := { name := "quoteJoins", fn := fun _ => fun
  | [d1, d2] => { results := [.lit (.bool false)], args := [d1, d2] }
  | _ => none }
def QuoteJoinsWrongFalsely : Prop := quoteJoinsRow.holds Tryd.pinned (OpenSpec.ofChange quoteJoinsWrong)

/-- 'wavestorelaw16.QuoteSpoiled': WHATEVER THE INPUT: true; the input reads as it did. -/
def quoteSpoiledSpec : ChangeSpec := { name := "quoteSpoiled", fn := fun _ => fun
  | [d1, d2] => { results := [.lit (.bool true)], args := [d1, d2] }
  | _ => none }
def quoteSpoiledRow : OpenClaim := { program := "ytdglaabgeigfnaadoor", sum := "097aea1aba4504f8d0d3c44105f5932558340a3737f8a5f1db390d6816031dcc", func := "wavestore/wavestorelaw16.QuoteSpoiled", spec := "quoteSpoiled", inPlace := ["internal/bytealg.IndexByteString", "internal/abi.NoEscape", "internal/bytealg.MakeNoZero", "internal/bytealg.CountString", "internal/bytealg.IndexString"], named := ["unicode/utf8.first", "unicode/utf8.acceptRanges", "internal/bytealg.MaxLen"], apart := false, laid := [("unicode/utf8.acceptRanges", laid_unicode_utf8_acceptRanges), ("unicode/utf8.first", laid_unicode_utf8_first)] }
def QuoteSpoiledSaid : Prop := quoteSpoiledRow.holds Tryd.pinned (OpenSpec.ofChange quoteSpoiledSpec)

/-- ITS FALSE NEIGHBOUR: 'it returns false'. Refute it at one input. -/
def quoteSpoiledWrong : ChangeSpec := { name := "quoteSpoiled", fn := fun _ => fun
  | [d1, d2] => { results := [.lit (.bool false)], args := [d1, d2] }
  | _ => none }
def QuoteSpoiledWrongFalsely : Prop := quoteSpoiledRow.holds Tryd.pinned (OpenSpec.ofChange quoteSpoiledWrong)

/- THE SECOND FORM. 'bulk': how many values and letters a reading holds, each counted each time it is reached (what is shared counts as often as it is met; a slice's spare places count too). A statement '..UptoSaid' is the law's where the arguments, and the package variables that the reading takes, are together of bulk at most 1048576: NARROWER than '..Said'. Prove '..Said' where nothing that the law and all that it calls make is longer than what came in: it says more and counts as full. Else prove '..UptoSaid'. A law counts once. -/
mutual
def uptoBulk {H : Type} : DataW H → Nat
  | .lit (.string bytes) => bytes.length + 1
  | .lit _ => 1
  | .nil => 1
  | .ptr d => uptoBulk d + 1
  | .slice elems spare => uptoBulkAll elems + uptoBulkAll spare + 1
  | .agg parts => uptoBulkAll parts + 1
  | .iface _ d => uptoBulk d + 1
  | .map entries => uptoBulkEntries entries + 1
  | .held _ => 1
def uptoBulkAll {H : Type} : List (DataW H) → Nat
  | [] => 0
  | d :: r => uptoBulk d + uptoBulkAll r
def uptoBulkEntries {H : Type} : List (Lit × DataW H) → Nat
  | [] => 0
  | x :: r => uptoBulkEntry x + uptoBulkEntries r
def uptoBulkEntry {H : Type} : Lit × DataW H → Nat
  | (.string bytes, d) => bytes.length + uptoBulk d + 1
  | (_, d) => uptoBulk d + 1
 end
def uptoSmall : (H : Type) → List (DataW H) → Bool := fun _ ds => decide (uptoBulkAll ds ≤ 1048576)
def OpenSpec.upto (s : _root_.Go.ChangeSpec) : _root_.Go.OpenSpec := { _root_.Go.OpenSpec.ofChange s with cond := some uptoSmall }

/-- 'wavestorelaw16.QuoteForms', WHERE WHAT IT READS IS OF BULK AT MOST 1048576: true; the input reads as it did. -/
def quoteFormsUptoRow : OpenClaim := { program := "ytdglaabgeigfnaadoor", sum := "097aea1aba4504f8d0d3c44105f5932558340a3737f8a5f1db390d6816031dcc", func := "wavestore/wavestorelaw16.QuoteForms", spec := "quoteForms", inPlace := ["internal/bytealg.IndexByteString", "internal/abi.NoEscape", "internal/bytealg.MakeNoZero", "internal/bytealg.CountString", "internal/bytealg.IndexString"], named := ["unicode/utf8.first", "unicode/utf8.acceptRanges", "internal/bytealg.MaxLen"], apart := false, laid := [("unicode/utf8.acceptRanges", laid_unicode_utf8_acceptRanges), ("unicode/utf8.first", laid_unicode_utf8_first)], narrowed := true }
def QuoteFormsUptoSaid : Prop := quoteFormsUptoRow.holds Tryd.pinned (OpenSpec.upto quoteFormsSpec)

/-- 'wavestorelaw16.QuoteWords', WHERE WHAT IT READS IS OF BULK AT MOST 1048576: true; the input reads as it did. -/
def quoteWordsUptoRow : OpenClaim := { program := "ytdglaabgeigfnaadoor", sum := "097aea1aba4504f8d0d3c44105f5932558340a3737f8a5f1db390d6816031dcc", func := "wavestore/wavestorelaw16.QuoteWords", spec := "quoteWords", inPlace := ["internal/bytealg.IndexByteString", "internal/abi.NoEscape", "internal/bytealg.MakeNoZero", "internal/bytealg.CountString", "internal/bytealg.IndexString"], named := ["unicode/utf8.first", "unicode/utf8.acceptRanges", "internal/bytealg.MaxLen"], apart := false, laid := [("unicode/utf8.acceptRanges", laid_unicode_utf8_acceptRanges), ("unicode/utf8.first", laid_unicode_utf8_first)], narrowed := true }
def QuoteWordsUptoSaid : Prop := quoteWordsUptoRow.holds Tryd.pinned (OpenSpec.upto quoteWordsSpec)

/-- 'wavestorelaw16.QuoteReturns', WHERE WHAT IT READS IS OF BULK AT MOST 1048576: true; the input reads as it did. -/
def quoteReturnsUptoRow : OpenClaim := { program := "ytdglaabgeigfnaadoor", sum := "097aea1aba4504f8d0d3c44105f5932558340a3737f8a5f1db390d6816031dcc", func := "wavestore/wavestorelaw16.QuoteReturns", spec := "quoteReturns", inPlace := ["internal/bytealg.IndexByteString", "internal/abi.NoEscape", "internal/bytealg.MakeNoZero", "internal/bytealg.CountString", "internal/bytealg.IndexString"], named := ["unicode/utf8.first", "unicode/utf8.acceptRanges", "internal/bytealg.MaxLen"], apart := false, laid := [("unicode/utf8.acceptRanges", laid_unicode_utf8_acceptRanges), ("unicode/utf8.first", laid_unicode_utf8_first)], narrowed := true }
def QuoteReturnsUptoSaid : Prop := quoteReturnsUptoRow.holds Tryd.pinned (OpenSpec.upto quoteReturnsSpec)

/-- 'wavestorelaw16.QuotePrintable', WHERE WHAT IT READS IS OF BULK AT MOST 1048576: true; the input reads as it did. -/
def quotePrintableUptoRow : OpenClaim := { program := "ytdglaabgeigfnaadoor", sum := "097aea1aba4504f8d0d3c44105f5932558340a3737f8a5f1db390d6816031dcc", func := "wavestore/wavestorelaw16.QuotePrintable", spec := "quotePrintable", inPlace := ["internal/bytealg.IndexByteString", "internal/abi.NoEscape", "internal/bytealg.MakeNoZero", "internal/bytealg.CountString", "internal/bytealg.IndexString"], named := ["unicode/utf8.first", "unicode/utf8.acceptRanges", "internal/bytealg.MaxLen"], apart := false, laid := [("unicode/utf8.acceptRanges", laid_unicode_utf8_acceptRanges), ("unicode/utf8.first", laid_unicode_utf8_first)], narrowed := true }
def QuotePrintableUptoSaid : Prop := quotePrintableUptoRow.holds Tryd.pinned (OpenSpec.upto quotePrintableSpec)

/-- 'wavestorelaw16.QuoteParts', WHERE WHAT IT READS IS OF BULK AT MOST 1048576: true; the input reads as it did. -/
def quotePartsUptoRow : OpenClaim := { program := "ytdglaabgeigfnaadoor", sum := "097aea1aba4504f8d0d3c44105f5932558340a3737f8a5f1db390d6816031dcc", func := "wavestore/wavestorelaw16.QuoteParts", spec := "quoteParts", inPlace := ["internal/bytealg.IndexByteString", "internal/abi.NoEscape", "internal/bytealg.MakeNoZero", "internal/bytealg.CountString", "internal/bytealg.IndexString"], named := ["unicode/utf8.first", "unicode/utf8.acceptRanges", "internal/bytealg.MaxLen"], apart := false, laid := [("unicode/utf8.acceptRanges", laid_unicode_utf8_acceptRanges), ("unicode/utf8.first", laid_unicode_utf8_first)], narrowed := true }
def QuotePartsUptoSaid : Prop := quotePartsUptoRow.holds Tryd.pinned (OpenSpec.upto quotePartsSpec)

/-- 'wavestorelaw16.QuoteJoins', WHERE WHAT IT READS IS OF BULK AT MOST 1048576: true; the input reads as it did. -/
def quoteJoinsUptoRow : OpenClaim := { program := "ytdglaabgeigfnaadoor", sum := "097aea1aba4504f8d0d3c44105f5932558340a3737f8a5f1db390d6816031dcc", func := "wavestore/wavestorelaw16.QuoteJoins", spec := "quoteJoins", inPlace := ["internal/bytealg.IndexByteString", "internal/abi.NoEscape", "internal/bytealg.MakeNoZero", "internal/bytealg.CountString", "internal/bytealg.IndexString"], named := ["unicode/utf8.first", "unicode/utf8.acceptRanges", "internal/bytealg.MaxLen"], apart := false, laid := [("unicode/utf8.acceptRanges", laid_unicode_utf8_acceptRanges), ("unicode/utf8.first", laid_unicode_utf8_first)], narrowed := true }
def QuoteJoinsUptoSaid : Prop := quoteJoinsUptoRow.holds Tryd.pinned (OpenSpec.upto quoteJoinsSpec)

/-- 'wavestorelaw16.QuoteSpoiled', WHERE WHAT IT READS IS OF BULK AT MOST 1048576: true; the input reads as it did. -/
def quoteSpoiledUptoRow : OpenClaim := { program := "ytdglaabgeigfnaadoor", sum := "097aea1aba4504f8d0d3c44105f5932558340a3737f8a5f1db390d6816031dcc", func := "wavestore/wavestorelaw16.QuoteSpoiled", spec := "quoteSpoiled", inPlace := ["internal/bytealg.IndexByteString", "internal/abi.NoEscape", "internal/bytealg.MakeNoZero", "internal/bytealg.CountString", "internal/bytealg.IndexString"], named := ["unicode/utf8.first", "unicode/utf8.acceptRanges", "internal/bytealg.MaxLen"], apart := false, laid := [("unicode/utf8.acceptRanges", laid_unicode_utf8_acceptRanges), ("unicode/utf8.first", laid_unicode_utf8_first)], narrowed := true }
def QuoteSpoiledUptoSaid : Prop := quoteSpoiledUptoRow.holds Tryd.pinned (OpenSpec.upto quoteSpoiledSpec)

end Rows
end Go.Proofs.YtdglaabgeigfnaaDoor
