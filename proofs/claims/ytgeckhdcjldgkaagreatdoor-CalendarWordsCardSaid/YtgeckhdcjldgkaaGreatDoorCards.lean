/-
  DERIVED. GIVEN WITH THE SEED: THE CARDS: each row of YtgeckhdcjldgkaaGreatDoorRows.lean that lists a variable, with what it lists TIED to the program's text (the seventh form; the later family's looks); each row that meets fmt, with fmt's text TOLD by the authors' own Lean function (tested against real Go, not proved from fmt's source: count such statements apart). THE CARD IS WHAT COUNTS. Prove the row's statement (the work); the ties are given (YtgeckhdcjldgkaaGreatDoorTie.lean); close each card by the builder's one call (the guide's Derived/Test/ToyasCard.lean, 'card_holds'). Laid BY PROGRAM, IN A SANDBOX (cutbox-door.mjs). By AI agents, Wed Nov 11 2026. No macro, syntax, notation, axiom, sorry.
-/
import Derived.Test.YtgeckhdcjldgkaaGreatDoorRows
import GoSem.ClaimSeven
namespace Go.Proofs.YtgeckhdcjldgkaaGreatDoor
namespace Rows

/-- THE TIED CARD OF 'reveillelaw3.CalendarDaily'. -/
def calendarDailyCard : Claim7 := { stood := { row := calendarDailyRow, standIns := [], harness := (true, "a02dc0a228779f726685c71da91b4c4d805c48e54f69fe859c1d41c2b5b408da"), looks := true }, kinds := [], alts := [], laidByText := true, laidKinds := [.data, .data, .data, .data, .sentinel, .sentinel, .wider, .wider, .wider, .wider, .wider, .wider, .pinned], laidTests := true, laidLooks := .later }
def CalendarDailyCardSaid : Prop := Claim7.holds Tryz.pinned (.plain (OpenSpec.ofChange calendarDailySpec)) calendarDailyCard

/-- THE TIED CARD OF 'reveillelaw3.CalendarWeekly'. -/
def calendarWeeklyCard : Claim7 := { stood := { row := calendarWeeklyRow, standIns := [], harness := (true, "a02dc0a228779f726685c71da91b4c4d805c48e54f69fe859c1d41c2b5b408da"), looks := true }, kinds := [], alts := [], laidByText := true, laidKinds := [.data, .data, .data, .data, .sentinel, .sentinel, .wider, .wider, .wider, .wider, .wider, .wider, .pinned], laidTests := true, laidLooks := .later }
def CalendarWeeklyCardSaid : Prop := Claim7.holds Tryz.pinned (.plain (OpenSpec.ofChange calendarWeeklySpec)) calendarWeeklyCard

/-- THE TIED CARD OF 'reveillelaw3.CalendarNever'. -/
def calendarNeverCard : Claim7 := { stood := { row := calendarNeverRow, standIns := [], harness := (true, "a02dc0a228779f726685c71da91b4c4d805c48e54f69fe859c1d41c2b5b408da"), looks := true }, kinds := [], alts := [], laidByText := true, laidKinds := [.data, .data, .data, .data, .sentinel, .sentinel, .wider, .wider, .wider, .wider, .wider, .wider, .pinned], laidTests := true, laidLooks := .later }
def CalendarNeverCardSaid : Prop := Claim7.holds Tryz.pinned (.plain (OpenSpec.ofChange calendarNeverSpec)) calendarNeverCard

/-- THE TIED CARD OF 'reveillelaw3.CalendarNext'. -/
def calendarNextCard : Claim7 := { stood := { row := calendarNextRow, standIns := [], harness := (true, "a02dc0a228779f726685c71da91b4c4d805c48e54f69fe859c1d41c2b5b408da"), looks := true }, kinds := [], alts := [], laidByText := true, laidKinds := [.data, .data, .data, .data, .sentinel, .sentinel, .wider, .wider, .wider, .wider, .wider, .wider, .pinned], laidTests := true, laidLooks := .later }
def CalendarNextCardSaid : Prop := Claim7.holds Tryz.pinned (.plain (OpenSpec.ofChange calendarNextSpec)) calendarNextCard

/-- THE TIED CARD OF 'reveillelaw3.CalendarGaps'. -/
def calendarGapsCard : Claim7 := { stood := { row := calendarGapsRow, standIns := [], harness := (true, "a02dc0a228779f726685c71da91b4c4d805c48e54f69fe859c1d41c2b5b408da"), looks := true }, kinds := [], alts := [], laidByText := true, laidKinds := [.data, .data, .data, .data, .sentinel, .sentinel, .wider, .wider, .wider, .wider, .wider, .wider, .pinned], laidTests := true, laidLooks := .later }
def CalendarGapsCardSaid : Prop := Claim7.holds Tryz.pinned (.plain (OpenSpec.ofChange calendarGapsSpec)) calendarGapsCard

/-- THE TIED CARD OF 'reveillelaw3.CalendarSteps'. -/
def calendarStepsCard : Claim7 := { stood := { row := calendarStepsRow, standIns := [], harness := (true, "a02dc0a228779f726685c71da91b4c4d805c48e54f69fe859c1d41c2b5b408da"), looks := true }, kinds := [], alts := [], laidByText := true, laidKinds := [.data, .data, .data, .data, .sentinel, .sentinel, .wider, .wider, .wider, .wider, .wider, .wider, .pinned], laidTests := true, laidLooks := .later }
def CalendarStepsCardSaid : Prop := Claim7.holds Tryz.pinned (.plain (OpenSpec.ofChange calendarStepsSpec)) calendarStepsCard

/-- THE TIED CARD OF 'reveillelaw3.CalendarFrom'. -/
def calendarFromCard : Claim7 := { stood := { row := calendarFromRow, standIns := [], harness := (true, "a02dc0a228779f726685c71da91b4c4d805c48e54f69fe859c1d41c2b5b408da"), looks := true }, kinds := [], alts := [], laidByText := true, laidKinds := [.data, .data, .data, .data, .sentinel, .sentinel, .wider, .wider, .wider, .wider, .wider, .wider, .pinned], laidTests := true, laidLooks := .later }
def CalendarFromCardSaid : Prop := Claim7.holds Tryz.pinned (.plain (OpenSpec.ofChange calendarFromSpec)) calendarFromCard

/-- THE TIED CARD OF 'reveillelaw3.CalendarReads'. -/
def calendarReadsCard : Claim7 := { stood := { row := calendarReadsRow, standIns := [], harness := (true, "a02dc0a228779f726685c71da91b4c4d805c48e54f69fe859c1d41c2b5b408da"), looks := true }, kinds := [], alts := [], laidByText := true, laidKinds := [.data, .data, .data, .data, .sentinel, .sentinel, .wider, .wider, .wider, .wider, .wider, .wider, .pinned], laidTests := true, laidLooks := .later }
def CalendarReadsCardSaid : Prop := Claim7.holds Tryz.pinned (.plain (OpenSpec.ofChange calendarReadsSpec)) calendarReadsCard

/-- THE TIED CARD OF 'reveillelaw3.CalendarBack'. -/
def calendarBackCard : Claim7 := { stood := { row := calendarBackRow, standIns := [], harness := (true, "a02dc0a228779f726685c71da91b4c4d805c48e54f69fe859c1d41c2b5b408da"), looks := true }, kinds := [], alts := [], laidByText := true, laidKinds := [.data, .data, .data, .data, .sentinel, .sentinel, .wider, .wider, .wider, .wider, .wider, .wider, .pinned], laidTests := true, laidLooks := .later }
def CalendarBackCardSaid : Prop := Claim7.holds Tryz.pinned (.plain (OpenSpec.ofChange calendarBackSpec)) calendarBackCard

/-- THE TIED CARD OF 'reveillelaw3.CalendarWords'. -/
def calendarWordsCard : Claim7 := { stood := { row := calendarWordsRow, standIns := [], harness := (true, "a02dc0a228779f726685c71da91b4c4d805c48e54f69fe859c1d41c2b5b408da"), looks := true }, kinds := [], alts := [], laidByText := true, laidKinds := [.data, .data, .data, .data, .sentinel, .sentinel, .wider, .wider, .wider, .wider, .wider, .wider, .pinned], laidTests := true, laidLooks := .later }
def CalendarWordsCardSaid : Prop := Claim7.holds Tryz.pinned (.plain (OpenSpec.ofChange calendarWordsSpec)) calendarWordsCard

/-- THE SECOND FORM's CARD OF 'reveillelaw3.CalendarDaily'. -/
def calendarDailyUptoCard : Claim7 := { stood := { row := calendarDailyUptoRow, standIns := [], harness := (true, "a02dc0a228779f726685c71da91b4c4d805c48e54f69fe859c1d41c2b5b408da"), looks := true }, kinds := [], alts := [], laidByText := true, laidKinds := [.data, .data, .data, .data, .sentinel, .sentinel, .wider, .wider, .wider, .wider, .wider, .wider, .pinned], laidTests := true, laidLooks := .later }
def CalendarDailyUptoCardSaid : Prop := Claim7.holds Tryz.pinned (.plain (OpenSpec.upto calendarDailySpec)) calendarDailyUptoCard

/-- THE SECOND FORM's CARD OF 'reveillelaw3.CalendarWeekly'. -/
def calendarWeeklyUptoCard : Claim7 := { stood := { row := calendarWeeklyUptoRow, standIns := [], harness := (true, "a02dc0a228779f726685c71da91b4c4d805c48e54f69fe859c1d41c2b5b408da"), looks := true }, kinds := [], alts := [], laidByText := true, laidKinds := [.data, .data, .data, .data, .sentinel, .sentinel, .wider, .wider, .wider, .wider, .wider, .wider, .pinned], laidTests := true, laidLooks := .later }
def CalendarWeeklyUptoCardSaid : Prop := Claim7.holds Tryz.pinned (.plain (OpenSpec.upto calendarWeeklySpec)) calendarWeeklyUptoCard

/-- THE SECOND FORM's CARD OF 'reveillelaw3.CalendarNever'. -/
def calendarNeverUptoCard : Claim7 := { stood := { row := calendarNeverUptoRow, standIns := [], harness := (true, "a02dc0a228779f726685c71da91b4c4d805c48e54f69fe859c1d41c2b5b408da"), looks := true }, kinds := [], alts := [], laidByText := true, laidKinds := [.data, .data, .data, .data, .sentinel, .sentinel, .wider, .wider, .wider, .wider, .wider, .wider, .pinned], laidTests := true, laidLooks := .later }
def CalendarNeverUptoCardSaid : Prop := Claim7.holds Tryz.pinned (.plain (OpenSpec.upto calendarNeverSpec)) calendarNeverUptoCard

/-- THE SECOND FORM's CARD OF 'reveillelaw3.CalendarNext'. -/
def calendarNextUptoCard : Claim7 := { stood := { row := calendarNextUptoRow, standIns := [], harness := (true, "a02dc0a228779f726685c71da91b4c4d805c48e54f69fe859c1d41c2b5b408da"), looks := true }, kinds := [], alts := [], laidByText := true, laidKinds := [.data, .data, .data, .data, .sentinel, .sentinel, .wider, .wider, .wider, .wider, .wider, .wider, .pinned], laidTests := true, laidLooks := .later }
def CalendarNextUptoCardSaid : Prop := Claim7.holds Tryz.pinned (.plain (OpenSpec.upto calendarNextSpec)) calendarNextUptoCard

/-- THE SECOND FORM's CARD OF 'reveillelaw3.CalendarGaps'. -/
def calendarGapsUptoCard : Claim7 := { stood := { row := calendarGapsUptoRow, standIns := [], harness := (true, "a02dc0a228779f726685c71da91b4c4d805c48e54f69fe859c1d41c2b5b408da"), looks := true }, kinds := [], alts := [], laidByText := true, laidKinds := [.data, .data, .data, .data, .sentinel, .sentinel, .wider, .wider, .wider, .wider, .wider, .wider, .pinned], laidTests := true, laidLooks := .later }
def CalendarGapsUptoCardSaid : Prop := Claim7.holds Tryz.pinned (.plain (OpenSpec.upto calendarGapsSpec)) calendarGapsUptoCard

/-- THE SECOND FORM's CARD OF 'reveillelaw3.CalendarSteps'. -/
def calendarStepsUptoCard : Claim7 := { stood := { row := calendarStepsUptoRow, standIns := [], harness := (true, "a02dc0a228779f726685c71da91b4c4d805c48e54f69fe859c1d41c2b5b408da"), looks := true }, kinds := [], alts := [], laidByText := true, laidKinds := [.data, .data, .data, .data, .sentinel, .sentinel, .wider, .wider, .wider, .wider, .wider, .wider, .pinned], laidTests := true, laidLooks := .later }
def CalendarStepsUptoCardSaid : Prop := Claim7.holds Tryz.pinned (.plain (OpenSpec.upto calendarStepsSpec)) calendarStepsUptoCard

/-- THE SECOND FORM's CARD OF 'reveillelaw3.CalendarFrom'. -/
def calendarFromUptoCard : Claim7 := { stood := { row := calendarFromUptoRow, standIns := [], harness := (true, "a02dc0a228779f726685c71da91b4c4d805c48e54f69fe859c1d41c2b5b408da"), looks := true }, kinds := [], alts := [], laidByText := true, laidKinds := [.data, .data, .data, .data, .sentinel, .sentinel, .wider, .wider, .wider, .wider, .wider, .wider, .pinned], laidTests := true, laidLooks := .later }
def CalendarFromUptoCardSaid : Prop := Claim7.holds Tryz.pinned (.plain (OpenSpec.upto calendarFromSpec)) calendarFromUptoCard

/-- THE SECOND FORM's CARD OF 'reveillelaw3.CalendarReads'. -/
def calendarReadsUptoCard : Claim7 := { stood := { row := calendarReadsUptoRow, standIns := [], harness := (true, "a02dc0a228779f726685c71da91b4c4d805c48e54f69fe859c1d41c2b5b408da"), looks := true }, kinds := [], alts := [], laidByText := true, laidKinds := [.data, .data, .data, .data, .sentinel, .sentinel, .wider, .wider, .wider, .wider, .wider, .wider, .pinned], laidTests := true, laidLooks := .later }
def CalendarReadsUptoCardSaid : Prop := Claim7.holds Tryz.pinned (.plain (OpenSpec.upto calendarReadsSpec)) calendarReadsUptoCard

/-- THE SECOND FORM's CARD OF 'reveillelaw3.CalendarBack'. -/
def calendarBackUptoCard : Claim7 := { stood := { row := calendarBackUptoRow, standIns := [], harness := (true, "a02dc0a228779f726685c71da91b4c4d805c48e54f69fe859c1d41c2b5b408da"), looks := true }, kinds := [], alts := [], laidByText := true, laidKinds := [.data, .data, .data, .data, .sentinel, .sentinel, .wider, .wider, .wider, .wider, .wider, .wider, .pinned], laidTests := true, laidLooks := .later }
def CalendarBackUptoCardSaid : Prop := Claim7.holds Tryz.pinned (.plain (OpenSpec.upto calendarBackSpec)) calendarBackUptoCard

/-- THE SECOND FORM's CARD OF 'reveillelaw3.CalendarWords'. -/
def calendarWordsUptoCard : Claim7 := { stood := { row := calendarWordsUptoRow, standIns := [], harness := (true, "a02dc0a228779f726685c71da91b4c4d805c48e54f69fe859c1d41c2b5b408da"), looks := true }, kinds := [], alts := [], laidByText := true, laidKinds := [.data, .data, .data, .data, .sentinel, .sentinel, .wider, .wider, .wider, .wider, .wider, .wider, .pinned], laidTests := true, laidLooks := .later }
def CalendarWordsUptoCardSaid : Prop := Claim7.holds Tryz.pinned (.plain (OpenSpec.upto calendarWordsSpec)) calendarWordsUptoCard
end Rows
end Go.Proofs.YtgeckhdcjldgkaaGreatDoor
