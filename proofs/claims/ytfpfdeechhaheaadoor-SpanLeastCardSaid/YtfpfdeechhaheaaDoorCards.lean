/-
  DERIVED. GIVEN WITH THE SEED: THE CARDS: each row of YtfpfdeechhaheaaDoorRows.lean that lists a variable, with what it lists TIED to the program's text (the seventh form; the later family's looks); each row that meets fmt, with fmt's text TOLD by the authors' own Lean function (tested against real Go, not proved from fmt's source: count such statements apart). THE CARD IS WHAT COUNTS. Prove the row's statement (the work); the ties are given (YtfpfdeechhaheaaDoorTie.lean); close each card by the builder's one call (the guide's Derived/Test/ToyasCard.lean, 'card_holds'). Laid BY PROGRAM, IN A SANDBOX (cutbox-door.mjs). By AI agents, Wed Nov 11 2026. No macro, syntax, notation, axiom, sorry.
-/
import Derived.Test.YtfpfdeechhaheaaDoorRows
import GoSem.ClaimSeven
namespace Go.Proofs.YtfpfdeechhaheaaDoor
namespace Rows

/-- THE TIED CARD OF 'reveillelaw1.SpanReads'. -/
def spanReadsCard : Claim7 := { stood := { row := spanReadsRow, standIns := [], harness := (true, "054be8861209e522176649320a7c817964da670eabe6c35eb6f53af7c3428fa2"), looks := true }, kinds := [], alts := [], laidByText := true, laidKinds := [.data, .data, .data, .data, .sentinel, .sentinel, .pinned], laidTests := true, laidLooks := .later }
def SpanReadsCardSaid : Prop := Claim7.holds Tryd.pinned (.plain (OpenSpec.ofChange spanReadsSpec)) spanReadsCard

/-- THE TIED CARD OF 'reveillelaw1.SpanBack'. -/
def spanBackCard : Claim7 := { stood := { row := spanBackRow, standIns := [], harness := (true, "054be8861209e522176649320a7c817964da670eabe6c35eb6f53af7c3428fa2"), looks := true }, kinds := [], alts := [], laidByText := true, laidKinds := [.data, .data, .data, .data, .sentinel, .sentinel, .pinned], laidTests := true, laidLooks := .later }
def SpanBackCardSaid : Prop := Claim7.holds Tryd.pinned (.plain (OpenSpec.ofChange spanBackSpec)) spanBackCard

/-- THE TIED CARD OF 'reveillelaw1.SpanParts'. -/
def spanPartsCard : Claim7 := { stood := { row := spanPartsRow, standIns := [], harness := (true, "054be8861209e522176649320a7c817964da670eabe6c35eb6f53af7c3428fa2"), looks := true }, kinds := [], alts := [], laidByText := true, laidKinds := [.data, .data, .data, .data, .sentinel, .sentinel, .pinned], laidTests := true, laidLooks := .later }
def SpanPartsCardSaid : Prop := Claim7.holds Tryd.pinned (.plain (OpenSpec.ofChange spanPartsSpec)) spanPartsCard

/-- THE TIED CARD OF 'reveillelaw1.SpanLeast'. -/
def spanLeastCard : Claim7 := { stood := { row := spanLeastRow, standIns := [], harness := (true, "054be8861209e522176649320a7c817964da670eabe6c35eb6f53af7c3428fa2"), looks := true }, kinds := [], alts := [], laidByText := true, laidKinds := [.data, .data, .data, .data, .sentinel, .sentinel, .pinned], laidTests := true, laidLooks := .later }
def SpanLeastCardSaid : Prop := Claim7.holds Tryd.pinned (.plain (OpenSpec.ofChange spanLeastSpec)) spanLeastCard

/-- THE TIED CARD OF 'reveillelaw1.SpanBounds'. -/
def spanBoundsCard : Claim7 := { stood := { row := spanBoundsRow, standIns := [], harness := (true, "054be8861209e522176649320a7c817964da670eabe6c35eb6f53af7c3428fa2"), looks := true }, kinds := [], alts := [], laidByText := true, laidKinds := [.data, .data, .data, .data, .sentinel, .sentinel, .pinned], laidTests := true, laidLooks := .later }
def SpanBoundsCardSaid : Prop := Claim7.holds Tryd.pinned (.plain (OpenSpec.ofChange spanBoundsSpec)) spanBoundsCard

/-- THE SECOND FORM's CARD OF 'reveillelaw1.SpanReads'. -/
def spanReadsUptoCard : Claim7 := { stood := { row := spanReadsUptoRow, standIns := [], harness := (true, "054be8861209e522176649320a7c817964da670eabe6c35eb6f53af7c3428fa2"), looks := true }, kinds := [], alts := [], laidByText := true, laidKinds := [.data, .data, .data, .data, .sentinel, .sentinel, .pinned], laidTests := true, laidLooks := .later }
def SpanReadsUptoCardSaid : Prop := Claim7.holds Tryd.pinned (.plain (OpenSpec.upto spanReadsSpec)) spanReadsUptoCard

/-- THE SECOND FORM's CARD OF 'reveillelaw1.SpanBack'. -/
def spanBackUptoCard : Claim7 := { stood := { row := spanBackUptoRow, standIns := [], harness := (true, "054be8861209e522176649320a7c817964da670eabe6c35eb6f53af7c3428fa2"), looks := true }, kinds := [], alts := [], laidByText := true, laidKinds := [.data, .data, .data, .data, .sentinel, .sentinel, .pinned], laidTests := true, laidLooks := .later }
def SpanBackUptoCardSaid : Prop := Claim7.holds Tryd.pinned (.plain (OpenSpec.upto spanBackSpec)) spanBackUptoCard

/-- THE SECOND FORM's CARD OF 'reveillelaw1.SpanParts'. -/
def spanPartsUptoCard : Claim7 := { stood := { row := spanPartsUptoRow, standIns := [], harness := (true, "054be8861209e522176649320a7c817964da670eabe6c35eb6f53af7c3428fa2"), looks := true }, kinds := [], alts := [], laidByText := true, laidKinds := [.data, .data, .data, .data, .sentinel, .sentinel, .pinned], laidTests := true, laidLooks := .later }
def SpanPartsUptoCardSaid : Prop := Claim7.holds Tryd.pinned (.plain (OpenSpec.upto spanPartsSpec)) spanPartsUptoCard

/-- THE SECOND FORM's CARD OF 'reveillelaw1.SpanLeast'. -/
def spanLeastUptoCard : Claim7 := { stood := { row := spanLeastUptoRow, standIns := [], harness := (true, "054be8861209e522176649320a7c817964da670eabe6c35eb6f53af7c3428fa2"), looks := true }, kinds := [], alts := [], laidByText := true, laidKinds := [.data, .data, .data, .data, .sentinel, .sentinel, .pinned], laidTests := true, laidLooks := .later }
def SpanLeastUptoCardSaid : Prop := Claim7.holds Tryd.pinned (.plain (OpenSpec.upto spanLeastSpec)) spanLeastUptoCard

/-- THE SECOND FORM's CARD OF 'reveillelaw1.SpanBounds'. -/
def spanBoundsUptoCard : Claim7 := { stood := { row := spanBoundsUptoRow, standIns := [], harness := (true, "054be8861209e522176649320a7c817964da670eabe6c35eb6f53af7c3428fa2"), looks := true }, kinds := [], alts := [], laidByText := true, laidKinds := [.data, .data, .data, .data, .sentinel, .sentinel, .pinned], laidTests := true, laidLooks := .later }
def SpanBoundsUptoCardSaid : Prop := Claim7.holds Tryd.pinned (.plain (OpenSpec.upto spanBoundsSpec)) spanBoundsUptoCard
end Rows
end Go.Proofs.YtfpfdeechhaheaaDoor
