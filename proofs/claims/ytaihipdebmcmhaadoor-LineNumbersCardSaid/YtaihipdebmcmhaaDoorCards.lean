/-
  DERIVED. GIVEN WITH THE SEED: THE CARDS: each row of YtaihipdebmcmhaaDoorRows.lean that lists a variable, with what it lists TIED to the program's text (the seventh form; the later family's looks); each row that meets fmt, with fmt's text TOLD by the authors' own Lean function (tested against real Go, not proved from fmt's source: count such statements apart). THE CARD IS WHAT COUNTS. Prove the row's statement (the work); the ties are given (YtaihipdebmcmhaaDoorTie.lean); close each card by the builder's one call (the guide's Derived/Test/ToyasCard.lean, 'card_holds'). Laid BY PROGRAM, IN A SANDBOX (cutbox-door.mjs). By AI agents, Wed Nov 11 2026. No macro, syntax, notation, axiom, sorry.
-/
import Derived.Test.YtaihipdebmcmhaaDoorRows
import GoSem.ClaimSeven
namespace Go.Proofs.YtaihipdebmcmhaaDoor
namespace Rows

/-- THE TIED CARD OF 'reveillelaw5.LineNumbers'. -/
def lineNumbersCard : Claim7 := { stood := { row := lineNumbersRow, standIns := [], harness := (true, "03050acd5d8cd8b22a12a62644c6fe85adb802a76aa2cca40085c32c5cf72194"), looks := false }, kinds := [], alts := [], laidByText := true, laidKinds := [.data, .pinned], laidTests := true, laidLooks := .later }
def LineNumbersCardSaid : Prop := Claim7.holds Tryd.pinned (.plain (OpenSpec.ofChange lineNumbersSpec)) lineNumbersCard

/-- THE TIED CARD OF 'reveillelaw5.LineLong'. -/
def lineLongCard : Claim7 := { stood := { row := lineLongRow, standIns := [], harness := (true, "03050acd5d8cd8b22a12a62644c6fe85adb802a76aa2cca40085c32c5cf72194"), looks := false }, kinds := [], alts := [], laidByText := true, laidKinds := [.data, .pinned], laidTests := true, laidLooks := .later }
def LineLongCardSaid : Prop := Claim7.holds Tryd.pinned (.plain (OpenSpec.ofChange lineLongSpec)) lineLongCard

/-- THE TIED CARD OF 'reveillelaw5.LineWords'. -/
def lineWordsCard : Claim7 := { stood := { row := lineWordsRow, standIns := [], harness := (true, "03050acd5d8cd8b22a12a62644c6fe85adb802a76aa2cca40085c32c5cf72194"), looks := false }, kinds := [], alts := [], laidByText := true, laidKinds := [.data, .pinned], laidTests := true, laidLooks := .later }
def LineWordsCardSaid : Prop := Claim7.holds Tryd.pinned (.plain (OpenSpec.ofChange lineWordsSpec)) lineWordsCard

/-- THE TIED CARD OF 'reveillelaw5.LineReads'. -/
def lineReadsCard : Claim7 := { stood := { row := lineReadsRow, standIns := [], harness := (true, "03050acd5d8cd8b22a12a62644c6fe85adb802a76aa2cca40085c32c5cf72194"), looks := false }, kinds := [], alts := [], laidByText := true, laidKinds := [.data, .pinned], laidTests := true, laidLooks := .later }
def LineReadsCardSaid : Prop := Claim7.holds Tryd.pinned (.plain (OpenSpec.ofChange lineReadsSpec)) lineReadsCard

/-- THE TIED CARD OF 'reveillelaw5.LineSplits'. -/
def lineSplitsCard : Claim7 := { stood := { row := lineSplitsRow, standIns := [], harness := (true, "03050acd5d8cd8b22a12a62644c6fe85adb802a76aa2cca40085c32c5cf72194"), looks := false }, kinds := [], alts := [], laidByText := true, laidKinds := [.data, .pinned], laidTests := true, laidLooks := .later }
def LineSplitsCardSaid : Prop := Claim7.holds Tryd.pinned (.plain (OpenSpec.ofChange lineSplitsSpec)) lineSplitsCard

/-- THE TIED CARD OF 'reveillelaw5.LineQuotes'. -/
def lineQuotesCard : Claim7 := { stood := { row := lineQuotesRow, standIns := [], harness := (true, "03050acd5d8cd8b22a12a62644c6fe85adb802a76aa2cca40085c32c5cf72194"), looks := false }, kinds := [], alts := [], laidByText := true, laidKinds := [.data, .pinned], laidTests := true, laidLooks := .later }
def LineQuotesCardSaid : Prop := Claim7.holds Tryd.pinned (.plain (OpenSpec.ofChange lineQuotesSpec)) lineQuotesCard

/-- THE SECOND FORM's CARD OF 'reveillelaw5.LineNumbers'. -/
def lineNumbersUptoCard : Claim7 := { stood := { row := lineNumbersUptoRow, standIns := [], harness := (true, "03050acd5d8cd8b22a12a62644c6fe85adb802a76aa2cca40085c32c5cf72194"), looks := false }, kinds := [], alts := [], laidByText := true, laidKinds := [.data, .pinned], laidTests := true, laidLooks := .later }
def LineNumbersUptoCardSaid : Prop := Claim7.holds Tryd.pinned (.plain (OpenSpec.upto lineNumbersSpec)) lineNumbersUptoCard

/-- THE SECOND FORM's CARD OF 'reveillelaw5.LineLong'. -/
def lineLongUptoCard : Claim7 := { stood := { row := lineLongUptoRow, standIns := [], harness := (true, "03050acd5d8cd8b22a12a62644c6fe85adb802a76aa2cca40085c32c5cf72194"), looks := false }, kinds := [], alts := [], laidByText := true, laidKinds := [.data, .pinned], laidTests := true, laidLooks := .later }
def LineLongUptoCardSaid : Prop := Claim7.holds Tryd.pinned (.plain (OpenSpec.upto lineLongSpec)) lineLongUptoCard

/-- THE SECOND FORM's CARD OF 'reveillelaw5.LineWords'. -/
def lineWordsUptoCard : Claim7 := { stood := { row := lineWordsUptoRow, standIns := [], harness := (true, "03050acd5d8cd8b22a12a62644c6fe85adb802a76aa2cca40085c32c5cf72194"), looks := false }, kinds := [], alts := [], laidByText := true, laidKinds := [.data, .pinned], laidTests := true, laidLooks := .later }
def LineWordsUptoCardSaid : Prop := Claim7.holds Tryd.pinned (.plain (OpenSpec.upto lineWordsSpec)) lineWordsUptoCard

/-- THE SECOND FORM's CARD OF 'reveillelaw5.LineReads'. -/
def lineReadsUptoCard : Claim7 := { stood := { row := lineReadsUptoRow, standIns := [], harness := (true, "03050acd5d8cd8b22a12a62644c6fe85adb802a76aa2cca40085c32c5cf72194"), looks := false }, kinds := [], alts := [], laidByText := true, laidKinds := [.data, .pinned], laidTests := true, laidLooks := .later }
def LineReadsUptoCardSaid : Prop := Claim7.holds Tryd.pinned (.plain (OpenSpec.upto lineReadsSpec)) lineReadsUptoCard

/-- THE SECOND FORM's CARD OF 'reveillelaw5.LineSplits'. -/
def lineSplitsUptoCard : Claim7 := { stood := { row := lineSplitsUptoRow, standIns := [], harness := (true, "03050acd5d8cd8b22a12a62644c6fe85adb802a76aa2cca40085c32c5cf72194"), looks := false }, kinds := [], alts := [], laidByText := true, laidKinds := [.data, .pinned], laidTests := true, laidLooks := .later }
def LineSplitsUptoCardSaid : Prop := Claim7.holds Tryd.pinned (.plain (OpenSpec.upto lineSplitsSpec)) lineSplitsUptoCard

/-- THE SECOND FORM's CARD OF 'reveillelaw5.LineQuotes'. -/
def lineQuotesUptoCard : Claim7 := { stood := { row := lineQuotesUptoRow, standIns := [], harness := (true, "03050acd5d8cd8b22a12a62644c6fe85adb802a76aa2cca40085c32c5cf72194"), looks := false }, kinds := [], alts := [], laidByText := true, laidKinds := [.data, .pinned], laidTests := true, laidLooks := .later }
def LineQuotesUptoCardSaid : Prop := Claim7.holds Tryd.pinned (.plain (OpenSpec.upto lineQuotesSpec)) lineQuotesUptoCard
end Rows
end Go.Proofs.YtaihipdebmcmhaaDoor
