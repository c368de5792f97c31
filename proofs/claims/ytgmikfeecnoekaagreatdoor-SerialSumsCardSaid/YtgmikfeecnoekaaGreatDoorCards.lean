/-
  DERIVED. GIVEN WITH THE SEED: THE CARDS: each row of YtgmikfeecnoekaaGreatDoorRows.lean that lists a variable, with what it lists TIED to the program's text (the seventh form; the later family's looks); each row that meets fmt, with fmt's text TOLD by the authors' own Lean function (tested against real Go, not proved from fmt's source: count such statements apart). THE CARD IS WHAT COUNTS. Prove the row's statement (the work); the ties are given (YtgmikfeecnoekaaGreatDoorTie.lean); close each card by the builder's one call (the guide's Derived/Test/ToyasCard.lean, 'card_holds'). Laid BY PROGRAM, IN A SANDBOX (cutbox-door.mjs). By AI agents, Wed Nov 11 2026. No macro, syntax, notation, axiom, sorry.
-/
import Derived.Test.YtgmikfeecnoekaaGreatDoorRows
import GoSem.ClaimSeven
namespace Go.Proofs.YtgmikfeecnoekaaGreatDoor
namespace Rows

/-- THE TIED CARD OF 'reveillelaw22.SerialReads'. -/
def serialReadsCard : Claim7 := { stood := { row := serialReadsRow, standIns := [], harness := (true, "3ac87f84cb005ce19074223ea3b264cbfb39058aaf09c78cf162c58d7394bd36"), looks := true }, kinds := [], alts := [], laidByText := true, laidKinds := [.data, .data, .data, .data, .sentinel, .sentinel, .pinned], laidTests := true, laidLooks := .later }
def SerialReadsCardSaid : Prop := Claim7.holds Tryz.pinned (.plain (OpenSpec.ofChange serialReadsSpec)) serialReadsCard

/-- THE TIED CARD OF 'reveillelaw22.SerialSums'. -/
def serialSumsCard : Claim7 := { stood := { row := serialSumsRow, standIns := [], harness := (true, "3ac87f84cb005ce19074223ea3b264cbfb39058aaf09c78cf162c58d7394bd36"), looks := true }, kinds := [], alts := [], laidByText := true, laidKinds := [.data, .data, .data, .data, .sentinel, .sentinel, .pinned], laidTests := true, laidLooks := .later }
def SerialSumsCardSaid : Prop := Claim7.holds Tryz.pinned (.plain (OpenSpec.ofChange serialSumsSpec)) serialSumsCard

/-- THE TIED CARD OF 'reveillelaw22.SerialWrites'. -/
def serialWritesCard : Claim7 := { stood := { row := serialWritesRow, standIns := [], harness := (true, "3ac87f84cb005ce19074223ea3b264cbfb39058aaf09c78cf162c58d7394bd36"), looks := true }, kinds := [], alts := [], laidByText := true, laidKinds := [.data, .data, .data, .data, .sentinel, .sentinel, .pinned], laidTests := true, laidLooks := .later }
def SerialWritesCardSaid : Prop := Claim7.holds Tryz.pinned (.plain (OpenSpec.ofChange serialWritesSpec)) serialWritesCard

/-- THE TIED CARD OF 'reveillelaw22.SerialBack'. -/
def serialBackCard : Claim7 := { stood := { row := serialBackRow, standIns := [], harness := (true, "3ac87f84cb005ce19074223ea3b264cbfb39058aaf09c78cf162c58d7394bd36"), looks := true }, kinds := [], alts := [], laidByText := true, laidKinds := [.data, .data, .data, .data, .sentinel, .sentinel, .pinned], laidTests := true, laidLooks := .later }
def SerialBackCardSaid : Prop := Claim7.holds Tryz.pinned (.plain (OpenSpec.ofChange serialBackSpec)) serialBackCard

/-- THE TIED CARD OF 'reveillelaw22.SerialNames'. -/
def serialNamesCard : Claim7 := { stood := { row := serialNamesRow, standIns := [], harness := (true, "3ac87f84cb005ce19074223ea3b264cbfb39058aaf09c78cf162c58d7394bd36"), looks := true }, kinds := [], alts := [], laidByText := true, laidKinds := [.data, .data, .data, .data, .sentinel, .sentinel, .pinned], laidTests := true, laidLooks := .later }
def SerialNamesCardSaid : Prop := Claim7.holds Tryz.pinned (.plain (OpenSpec.ofChange serialNamesSpec)) serialNamesCard

/-- THE SECOND FORM's CARD OF 'reveillelaw22.SerialReads'. -/
def serialReadsUptoCard : Claim7 := { stood := { row := serialReadsUptoRow, standIns := [], harness := (true, "3ac87f84cb005ce19074223ea3b264cbfb39058aaf09c78cf162c58d7394bd36"), looks := true }, kinds := [], alts := [], laidByText := true, laidKinds := [.data, .data, .data, .data, .sentinel, .sentinel, .pinned], laidTests := true, laidLooks := .later }
def SerialReadsUptoCardSaid : Prop := Claim7.holds Tryz.pinned (.plain (OpenSpec.upto serialReadsSpec)) serialReadsUptoCard

/-- THE SECOND FORM's CARD OF 'reveillelaw22.SerialSums'. -/
def serialSumsUptoCard : Claim7 := { stood := { row := serialSumsUptoRow, standIns := [], harness := (true, "3ac87f84cb005ce19074223ea3b264cbfb39058aaf09c78cf162c58d7394bd36"), looks := true }, kinds := [], alts := [], laidByText := true, laidKinds := [.data, .data, .data, .data, .sentinel, .sentinel, .pinned], laidTests := true, laidLooks := .later }
def SerialSumsUptoCardSaid : Prop := Claim7.holds Tryz.pinned (.plain (OpenSpec.upto serialSumsSpec)) serialSumsUptoCard

/-- THE SECOND FORM's CARD OF 'reveillelaw22.SerialWrites'. -/
def serialWritesUptoCard : Claim7 := { stood := { row := serialWritesUptoRow, standIns := [], harness := (true, "3ac87f84cb005ce19074223ea3b264cbfb39058aaf09c78cf162c58d7394bd36"), looks := true }, kinds := [], alts := [], laidByText := true, laidKinds := [.data, .data, .data, .data, .sentinel, .sentinel, .pinned], laidTests := true, laidLooks := .later }
def SerialWritesUptoCardSaid : Prop := Claim7.holds Tryz.pinned (.plain (OpenSpec.upto serialWritesSpec)) serialWritesUptoCard

/-- THE SECOND FORM's CARD OF 'reveillelaw22.SerialBack'. -/
def serialBackUptoCard : Claim7 := { stood := { row := serialBackUptoRow, standIns := [], harness := (true, "3ac87f84cb005ce19074223ea3b264cbfb39058aaf09c78cf162c58d7394bd36"), looks := true }, kinds := [], alts := [], laidByText := true, laidKinds := [.data, .data, .data, .data, .sentinel, .sentinel, .pinned], laidTests := true, laidLooks := .later }
def SerialBackUptoCardSaid : Prop := Claim7.holds Tryz.pinned (.plain (OpenSpec.upto serialBackSpec)) serialBackUptoCard

/-- THE SECOND FORM's CARD OF 'reveillelaw22.SerialNames'. -/
def serialNamesUptoCard : Claim7 := { stood := { row := serialNamesUptoRow, standIns := [], harness := (true, "3ac87f84cb005ce19074223ea3b264cbfb39058aaf09c78cf162c58d7394bd36"), looks := true }, kinds := [], alts := [], laidByText := true, laidKinds := [.data, .data, .data, .data, .sentinel, .sentinel, .pinned], laidTests := true, laidLooks := .later }
def SerialNamesUptoCardSaid : Prop := Claim7.holds Tryz.pinned (.plain (OpenSpec.upto serialNamesSpec)) serialNamesUptoCard
end Rows
end Go.Proofs.YtgmikfeecnoekaaGreatDoor
