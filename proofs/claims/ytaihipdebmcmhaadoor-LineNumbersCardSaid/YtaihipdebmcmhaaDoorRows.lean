/-
  NARROWER THAN 'FOR EVERY INPUT', by the rows' own cells (each row's printed sentence says how): LineNumbers: laid · LineLong: laid · LineWords: laid · LineReads: laid · LineSplits: laid · LineQuotes: laid.
  DERIVED. THE GIVEN ROWS OF THIS SEAT. 6 by the template 'for every input the law returns true; each argument reads behind the call as it read before'; 0 by the template 'total and deterministic' (their statements: YtaihipdebmcmhaaDoorTotals.lean).
  GIVEN WITH THE SEED: the statements are not yours to turn. If you find one false, say at which input.
  Laid BY PROGRAM, IN A SANDBOX (cutbox-rows.mjs): the forced cells as the released guide's own fill.sh prints them over the translation 465b81fc68e9ad24… (all of the seat's roots in one cut). By AI agents, Wed Nov 11 2026. No macro, syntax, notation, axiom, sorry.
-/
import Derived.Test.YtaihipdebmcmhaaDoorChecked
import GoSem.PinnedTables
import GoSem.Claim
import GoSem.ClaimJoined
import GoSem.ClaimMapViews
import Derived.JoinedTies
import Derived.KernelRfl
namespace Go.Proofs.YtaihipdebmcmhaaDoor
/- THE CELL 'sum', in the pinned program and in every row, IS THE sha256 OF THE DUMP (.gsa) THAT YtaihipdebmcmhaaDoorProg.lean LOADS. Nothing in Lean hashes anything: it is a label: what it is worth is what the hold of that sum in a sandbox is worth. -/
noncomputable def Tryd.pinned : Pinned := { name := "ytaihipdebmcmhaadoor", sum := "465b81fc68e9ad2459020c0478f066eab8ee7ba9a965863dabe005cfae1ffe25", checked := Tryd.checked }
namespace Rows
def none {H : Type} : Left H := { results := [], args := [] }

/- WHAT THE LISTED PACKAGE-LEVEL VARIABLES READ AS WHEN THE CALL BEGINS. Each datum BY PROGRAM (the guide's laid-datum.mjs) off the statement by which the dump's own 'gosem.cut.vars' lays the variable. In a bare row this is a premise. The card (YtaihipdebmcmhaaDoorCards.lean) ties it to the program's text. -/
def laid_unicode_utf8_acceptRanges {H : Type} : DataW H := .agg [.agg [.lit (.int .u8 128), .lit (.int .u8 191)], .agg [.lit (.int .u8 160), .lit (.int .u8 191)], .agg [.lit (.int .u8 128), .lit (.int .u8 159)], .agg [.lit (.int .u8 144), .lit (.int .u8 191)], .agg [.lit (.int .u8 128), .lit (.int .u8 143)], .agg [.lit (.int .u8 0), .lit (.int .u8 0)], .agg [.lit (.int .u8 0), .lit (.int .u8 0)], .agg [.lit (.int .u8 0), .lit (.int .u8 0)], .agg [.lit (.int .u8 0), .lit (.int .u8 0)], .agg [.lit (.int .u8 0), .lit (.int .u8 0)], .agg [.lit (.int .u8 0), .lit (.int .u8 0)], .agg [.lit (.int .u8 0), .lit (.int .u8 0)], .agg [.lit (.int .u8 0), .lit (.int .u8 0)], .agg [.lit (.int .u8 0), .lit (.int .u8 0)], .agg [.lit (.int .u8 0), .lit (.int .u8 0)], .agg [.lit (.int .u8 0), .lit (.int .u8 0)]]
/-- One of Go's own tables, pinned by name: the form's constant. -/
def laid_unicode_utf8_first : DataW Unit := Go.Pinned.utf8First

/-- 'reveillelaw5.LineNumbers': WHATEVER THE INPUT: true; the input reads as it did. -/
def lineNumbersSpec : ChangeSpec := { name := "lineNumbers", fn := fun _ => fun
  | [d] => { results := [.lit (.bool true)], args := [d] }
  | _ => none }
def lineNumbersRow : OpenClaim := { program := "ytaihipdebmcmhaadoor", sum := "465b81fc68e9ad2459020c0478f066eab8ee7ba9a965863dabe005cfae1ffe25", func := "reveille/reveillelaw5.LineNumbers", spec := "lineNumbers", inPlace := ["internal/bytealg.CountString", "internal/bytealg.IndexByteString", "internal/bytealg.IndexString"], unfollowed := true, recurses := true, named := ["unicode/utf8.first", "unicode/utf8.acceptRanges", "internal/bytealg.MaxLen"], apart := false, laid := [("unicode/utf8.acceptRanges", laid_unicode_utf8_acceptRanges), ("unicode/utf8.first", laid_unicode_utf8_first)] }
def LineNumbersSaid : Prop := lineNumbersRow.holds Tryd.pinned (OpenSpec.ofChange lineNumbersSpec)

/-- ITS FALSE NEIGHBOUR: 'it returns false'. Refute it at one input. -/
def lineNumbersWrong : ChangeSpec := { name := "lineNumbers", fn := fun _ => fun
  | [d] => { results := [.lit (.bool false)], args := [d] }
  | _ => none }
def LineNumbersWrongFalsely : Prop := lineNumbersRow.holds Tryd.pinned (OpenSpec.ofChange lineNumbersWrong)

/-- 'reveillelaw5.LineLong': WHATEVER THE INPUT: true; the input reads as it did. -/
def lineLongSpec : ChangeSpec := { name := "lineLong", fn := fun _ => fun
  | [d1, d2] => { results := [.lit (.bool true)], args := [d1, d2] }
  | _ => none }
def lineLongRow : OpenClaim := { program := "ytaihipdebmcmhaadoor", sum := "465b81fc68e9ad2459020c0478f066eab8ee7ba9a965863dabe005cfae1ffe25", func := "reveille/reveillelaw5.LineLong", spec := "lineLong", inPlace := ["internal/bytealg.CountString", "internal/bytealg.IndexByteString", "internal/bytealg.IndexString"], unfollowed := true, recurses := true, named := ["unicode/utf8.first", "unicode/utf8.acceptRanges", "internal/bytealg.MaxLen"], apart := false, laid := [("unicode/utf8.acceptRanges", laid_unicode_utf8_acceptRanges), ("unicode/utf8.first", laid_unicode_utf8_first)] }
def LineLongSaid : Prop := lineLongRow.holds Tryd.pinned (OpenSpec.ofChange lineLongSpec)

/-- ITS FALSE NEIGHBOUR: 'it returns false'. Refute it at one input. -/
def lineLongWrong : ChangeSpec := { name := "lineLong", fn := fun _ => fun
  | [d1, d2] => { results := [.lit (.bool false)], args := [d1, d2] }
  | _ => none }
def LineLongWrongFalsely : Prop := lineLongRow.holds Tryd.pinned (OpenSpec.ofChange lineLongWrong)

/-- 'reveillelaw5.LineWords': WHATEVER THE INPUT: true; the input reads as it did. -/
def lineWordsSpec : ChangeSpec := { name := "lineWords", fn := fun _ => fun
  | [d1, d2] => { results := [.lit (.bool true)], args := [d1, d2] }
  | _ => none }
def lineWordsRow : OpenClaim := { program := "ytaihipdebmcmhaadoor", sum := "465b81fc68e9ad2459020c0478f066eab8ee7ba9a965863dabe005cfae1ffe25", func := "reveille/reveillelaw5.LineWords", spec := "lineWords", inPlace := ["internal/bytealg.CountString", "internal/bytealg.IndexByteString", "internal/bytealg.IndexString"], unfollowed := true, recurses := true, named := ["unicode/utf8.first", "unicode/utf8.acceptRanges", "internal/bytealg.MaxLen"], apart := false, laid := [("unicode/utf8.acceptRanges", laid_unicode_utf8_acceptRanges), ("unicode/utf8.first", laid_unicode_utf8_first)] }
def LineWordsSaid : Prop := lineWordsRow.holds Tryd.pinned (OpenSpec.ofChange lineWordsSpec)

/-- ITS FALSE NEIGHBOUR: 'it returns false'. Refute it at one input. -/
def lineWordsWrong : ChangeSpec := { name := "lineWords", fn := fun _ => fun
  | [d1, d2] => { results := [.lit (.bool false)], args := [d1, d2] }
  | _ => none }
def LineWordsWrongFalsely : Prop := lineWordsRow.holds Tryd.pinned (OpenSpec.ofChange lineWordsWrong)

/-- 'reveillelaw5.LineReads': WHATEVER THE INPUT: true; the input reads as it did. -/
def lineReadsSpec : ChangeSpec := { name := "lineReads", fn := fun _ => fun
  | [d1, d2] => { results := [.lit (.bool true)], args := [d1, d2] }
  | _ => none }
def lineReadsRow : OpenClaim := { program := "ytaihipdebmcmhaadoor", sum := "465b81fc68e9ad2459020c0478f066eab8ee7ba9a965863dabe005cfae1ffe25", func := "reveille/reveillelaw5.LineReads", spec := "lineReads", inPlace := ["internal/bytealg.CountString", "internal/bytealg.IndexByteString", "internal/bytealg.IndexString"], unfollowed := true, recurses := true, named := ["unicode/utf8.first", "unicode/utf8.acceptRanges", "internal/bytealg.MaxLen"], apart := false, laid := [("unicode/utf8.acceptRanges", laid_unicode_utf8_acceptRanges), ("unicode/utf8.first", laid_unicode_utf8_first)] }
def LineReadsSaid : Prop := lineReadsRow.holds Tryd.pinned (OpenSpec.ofChange lineReadsSpec)

/-- ITS FALSE NEIGHBOUR: 'it returns false'. Refute it at one input. -/
def lineReadsWrong : ChangeSpec := { name := "lineReads", fn := fun _ => fun
  | [d1, d2] => { results := [.lit (.bool false)], args := [d1, d2] }
  | _ => none }
def LineReadsWrongFalsely : Prop := lineReadsRow.holds Tryd.pinned (OpenSpec.ofChange lineReadsWrong)

/-- 'reveillelaw5.LineSplits': WHATEVER THE INPUT: true; the input reads as it did. -/
def lineSplitsSpec : ChangeSpec := { name := "lineSplits", fn := fun _ => fun
  | [d] => { results := [.lit (.bool true)], args := [d] }
  | _ => none }
def lineSplitsRow : OpenClaim := { program := "ytaihipdebmcmhaadoor", sum := "465b81fc68e9ad2459020c0478f066eab8ee7ba9a965863dabe005cfae1ffe25", func := "reveille/reveillelaw5.LineSplits", spec := "lineSplits", inPlace := ["internal/bytealg.CountString", "internal/bytealg.IndexByteString", "internal/bytealg.IndexString", "internal/abi.NoEscape", "internal/bytealg.MakeNoZero"], unfollowed := true, recurses := true, named := ["unicode/utf8.first", "unicode/utf8.acceptRanges", "internal/bytealg.MaxLen"], apart := false, laid := [("unicode/utf8.acceptRanges", laid_unicode_utf8_acceptRanges), ("unicode/utf8.first", laid_unicode_utf8_first)] }
def LineSplitsSaid : Prop := lineSplitsRow.holds Tryd.pinned (OpenSpec.ofChange lineSplitsSpec)

/-- ITS FALSE NEIGHBOUR: 'it returns false'. Refute it at one input. -/
def lineSplitsWrong : ChangeSpec := { name := "lineSplits", fn := fun _ => fun
  | [d] => { results := [.lit (.bool false)], args := [d] }
  | _ => none }
def LineSplitsWrongFalsely : Prop := lineSplitsRow.holds Tryd.pinned (OpenSpec.ofChange lineSplitsWrong)

/-- 'reveillelaw5.LineQuotes': WHATEVER THE INPUT: true; the input reads as it did. -/
def lineQuotesSpec : ChangeSpec := { name := "lineQuotes", fn := fun _ => fun
  | [d] => { results := [.lit (.bool true)], args := [d] }
  | _ => none }
def lineQuotesRow : OpenClaim := { program := "ytaihipdebmcmhaadoor", sum := "465b81fc68e9ad2459020c0478f066eab8ee7ba9a965863dabe005cfae1ffe25", func := "reveille/reveillelaw5.LineQuotes", spec := "lineQuotes", inPlace := ["internal/bytealg.CountString", "internal/bytealg.IndexByteString", "internal/bytealg.IndexString", "internal/abi.NoEscape", "internal/bytealg.MakeNoZero"], unfollowed := true, recurses := true, named := ["unicode/utf8.first", "unicode/utf8.acceptRanges", "internal/bytealg.MaxLen"], apart := false, laid := [("unicode/utf8.acceptRanges", laid_unicode_utf8_acceptRanges), ("unicode/utf8.first", laid_unicode_utf8_first)] }
def LineQuotesSaid : Prop := lineQuotesRow.holds Tryd.pinned (OpenSpec.ofChange lineQuotesSpec)

/-- ITS FALSE NEIGHBOUR: 'it returns false'. Refute it at one input. -/
def lineQuotesWrong : ChangeSpec := { name := "lineQuotes", fn := fun _ => fun
  | [d] => { results := [.lit (.bool false)], args := [d] }
  | _ => none }
def LineQuotesWrongFalsely : Prop := lineQuotesRow.holds Tryd.pinned (OpenSpec.ofChange lineQuotesWrong)

/- THE SECOND FORM. 'bulk': how many values and letters a reading holds, each counted each time it is reached (what is shared counts as often as it is met; a slice's spare places count too). A statement '..UptoSaid' is the law's where the arguments, and the package variables that the reading takes, are together of bulk at most 1048576: NARROWER than '..Said'. Prove '..Said' where nothing that the law and all that it calls make is longer than what came in: it says more and counts as full. Else prove '..UptoSaid'. A law counts once. -/
mutual
def uptoBulk {H : Type} : DataW H → Nat
  | .lit (.string bytes) => bytes.length + 1
  | .lit _ => 1
  | .nil => 1
  | .ptr d => uptoBulk d + 1
  | .slice elems spare => uptoBulkAll elems + uptoBulkAll spare + 1
  | .agg parts => uptoBulkAll parts + 1
  | .iface _ d => uptoBulk d + 1
  | .map entries => uptoBulkEntries entries + 1
  | .held _ => 1
def uptoBulkAll {H : Type} : List (DataW H) → Nat
  | [] => 0
  | d :: r => uptoBulk d + uptoBulkAll r
def uptoBulkEntries {H : Type} : List (Lit × DataW H) → Nat
  | [] => 0
  | x :: r => uptoBulkEntry x + uptoBulkEntries r
def uptoBulkEntry {H : Type} : Lit × DataW H → Nat
  | (.string bytes, d) => bytes.length + uptoBulk d + 1
  | (_, d) => uptoBulk d + 1
 end
def uptoSmall : (H : Type) → List (DataW H) → Bool := fun _ ds => decide (uptoBulkAll ds ≤ 1048576)
def OpenSpec.upto (s : _root_.Go.ChangeSpec) : _root_.Go.OpenSpec := { _root_.Go.OpenSpec.ofChange s with cond := some uptoSmall }

/-- 'reveillelaw5.LineNumbers', WHERE WHAT IT READS IS OF BULK AT MOST 1048576: true; the input reads as it did. -/
def lineNumbersUptoRow : OpenClaim := { program := "ytaihipdebmcmhaadoor", sum := "465b81fc68e9ad2459020c0478f066eab8ee7ba9a965863dabe005cfae1ffe25", func := "reveille/reveillelaw5.LineNumbers", spec := "lineNumbers", inPlace := ["internal/bytealg.CountString", "internal/bytealg.IndexByteString", "internal/bytealg.IndexString"], unfollowed := true, recurses := true, named := ["unicode/utf8.first", "unicode/utf8.acceptRanges", "internal/bytealg.MaxLen"], apart := false, laid := [("unicode/utf8.acceptRanges", laid_unicode_utf8_acceptRanges), ("unicode/utf8.first", laid_unicode_utf8_first)], narrowed := true }
def LineNumbersUptoSaid : Prop := lineNumbersUptoRow.holds Tryd.pinned (OpenSpec.upto lineNumbersSpec)

/-- 'reveillelaw5.LineLong', WHERE WHAT IT READS IS OF BULK AT MOST 1048576: true; the input reads as it did. -/
def lineLongUptoRow : OpenClaim := { program := "ytaihipdebmcmhaadoor", sum := "465b81fc68e9ad2459020c0478f066eab8ee7ba9a965863dabe005cfae1ffe25", func := "reveille/reveillelaw5.LineLong", spec := "lineLong", inPlace := ["internal/bytealg.CountString", "internal/bytealg.IndexByteString", "internal/bytealg.IndexString"], unfollowed := true, recurses := true, named := ["unicode/utf8.first", "unicode/utf8.acceptRanges", "internal/bytealg.MaxLen"], apart := false, laid := [("unicode/utf8.acceptRanges", laid_unicode_utf8_acceptRanges), ("unicode/utf8.first", laid_unicode_utf8_first)], narrowed := true }
def LineLongUptoSaid : Prop := lineLongUptoRow.holds Tryd.pinned (OpenSpec.upto lineLongSpec)

/-- 'reveillelaw5.LineWords', WHERE WHAT IT READS IS OF BULK AT MOST 1048576: true; the input reads as it did. -/
def lineWordsUptoRow : OpenClaim := { program := "ytaihipdebmcmhaadoor", sum := "465b81fc68e9ad2459020c0478f066eab8ee7ba9a965863dabe005cfae1ffe25", func := "reveille/reveillelaw5.LineWords", spec := "lineWords", inPlace := ["internal/bytealg.CountString", "internal/bytealg.IndexByteString", "internal/bytealg.IndexString"], unfollowed := true, recurses := true, named := ["unicode/utf8.first", "unicode/utf8.acceptRanges", "internal/bytealg.MaxLen"], apart := false, laid := [("unicode/utf8.acceptRanges", laid_unicode_utf8_acceptRanges), ("unicode/utf8.first", laid_unicode_utf8_first)], narrowed := true }
def LineWordsUptoSaid : Prop := lineWordsUptoRow.holds Tryd.pinned (OpenSpec.upto lineWordsSpec)

/-- 'reveillelaw5.LineReads', WHERE WHAT IT READS IS OF BULK AT MOST 1048576: true; the input reads as it did. -/
def lineReadsUptoRow : OpenClaim := { program := "ytaihipdebmcmhaadoor", sum := "465b81fc68e9ad2459020c0478f066eab8ee7ba9a965863dabe005cfae1ffe25", func := "reveille/reveillelaw5.LineReads", spec := "lineReads", inPlace := ["internal/bytealg.CountString", "internal/bytealg.IndexByteString", "internal/bytealg.IndexString"], unfollowed := true, recurses := true, named := ["unicode/utf8.first", "unicode/utf8.acceptRanges", "internal/bytealg.MaxLen"], apart := false, laid := [("unicode/utf8.acceptRanges", laid_unicode_utf8_acceptRanges), ("unicode/utf8.first", laid_unicode_utf8_first)], narrowed := true }
def LineReadsUptoSaid : Prop := lineReadsUptoRow.holds Tryd.pinned (OpenSpec.upto lineReadsSpec)

/-- 'reveillelaw5.LineSplits', WHERE WHAT IT READS IS OF BULK AT MOST 1048576: true; the input reads as it did. -/
def lineSplitsUptoRow : OpenClaim := { program := "ytaihipdebmcmhaadoor", sum := "465b81fc68e9ad2459020c0478f066eab8ee7ba9a965863dabe005cfae1ffe25", func := "reveille/reveillelaw5.LineSplits", spec := "lineSplits", inPlace := ["internal/bytealg.CountString", "internal/bytealg.IndexByteString", "internal/bytealg.IndexString", "internal/abi.NoEscape", "internal/bytealg.MakeNoZero"], unfollowed := true, recurses := true, named := ["unicode/utf8.first", "unicode/utf8.acceptRanges", "internal/bytealg.MaxLen"], apart := false, laid := [("unicode/utf8.acceptRanges", laid_unicode_utf8_acceptRanges), ("unicode/utf8.first", laid_unicode_utf8_first)], narrowed := true }
def LineSplitsUptoSaid : Prop := lineSplitsUptoRow.holds Tryd.pinned (OpenSpec.upto lineSplitsSpec)

/-- 'reveillelaw5.LineQuotes', WHERE WHAT IT READS IS OF BULK AT MOST 1048576: true; the input reads as it did. -/
def lineQuotesUptoRow : OpenClaim := { program := "ytaihipdebmcmhaadoor", sum := "465b81fc68e9ad2459020c0478f066eab8ee7ba9a965863dabe005cfae1ffe25", func := "reveille/reveillelaw5.LineQuotes", spec := "lineQuotes", inPlace := ["internal/bytealg.CountString", "internal/bytealg.IndexByteString", "internal/bytealg.IndexString", "internal/abi.NoEscape", "internal/bytealg.MakeNoZero"], unfollowed := true, recurses := true, named := ["unicode/utf8.first", "unicode/utf8.acceptRanges", "internal/bytealg.MaxLen"], apart := false, laid := [("unicode/utf8.acceptRanges", laid_unicode_utf8_acceptRanges), ("unicode/utf8.first", laid_unicode_utf8_first)], narrowed := true }
def LineQuotesUptoSaid : Prop := lineQuotesUptoRow.holds Tryd.pinned (OpenSpec.upto lineQuotesSpec)

end Rows
end Go.Proofs.YtaihipdebmcmhaaDoor
