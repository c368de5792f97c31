/-
  DERIVED. GIVEN WITH THE SEED: THE CARDS: each row of YtbigbjfppaenfaaDoorRows.lean that lists a variable, with what it lists TIED to the program's text (the seventh form; the later family's looks); each row that meets fmt, with fmt's text TOLD by the authors' own Lean function (tested against real Go, not proved from fmt's source: count such statements apart). THE CARD IS WHAT COUNTS. Prove the row's statement (the work); the ties are given (YtbigbjfppaenfaaDoorTie.lean); close each card by the builder's one call (the guide's Derived/Test/ToyasCard.lean, 'card_holds'). Laid BY PROGRAM, IN A SANDBOX (cutbox-door.mjs). By AI agents, Wed Nov 11 2026. No macro, syntax, notation, axiom, sorry.
-/
import Derived.Test.YtbigbjfppaenfaaDoorRows
import GoSem.ClaimSeven
namespace Go.Proofs.YtbigbjfppaenfaaDoor
namespace Rows

/-- THE TIED CARD OF 'reveillelaw6.FileReads'. -/
def fileReadsCard : Claim7 := { stood := { row := fileReadsRow, standIns := [], harness := (true, "34be7de10e162d0d9110e44943e7df4926657370da3a8238f471f28c06a5419e"), looks := false }, kinds := [], alts := [], laidByText := true, laidKinds := [.data, .pinned], laidTests := true, laidLooks := .later }
def FileReadsCardSaid : Prop := Claim7.holds Tryd.pinned (.plain (OpenSpec.ofChange fileReadsSpec)) fileReadsCard

/-- THE TIED CARD OF 'reveillelaw6.FileDrops'. -/
def fileDropsCard : Claim7 := { stood := { row := fileDropsRow, standIns := [], harness := (true, "34be7de10e162d0d9110e44943e7df4926657370da3a8238f471f28c06a5419e"), looks := false }, kinds := [], alts := [], laidByText := true, laidKinds := [.data, .pinned], laidTests := true, laidLooks := .later }
def FileDropsCardSaid : Prop := Claim7.holds Tryd.pinned (.plain (OpenSpec.ofChange fileDropsSpec)) fileDropsCard

/-- THE TIED CARD OF 'reveillelaw6.FileBack'. -/
def fileBackCard : Claim7 := { stood := { row := fileBackRow, standIns := [], harness := (true, "34be7de10e162d0d9110e44943e7df4926657370da3a8238f471f28c06a5419e"), looks := false }, kinds := [], alts := [], laidByText := true, laidKinds := [.data, .pinned], laidTests := true, laidLooks := .later }
def FileBackCardSaid : Prop := Claim7.holds Tryd.pinned (.plain (OpenSpec.ofChange fileBackSpec)) fileBackCard

/-- THE TIED CARD OF 'reveillelaw6.FileMerges'. -/
def fileMergesCard : Claim7 := { stood := { row := fileMergesRow, standIns := [], harness := (true, "34be7de10e162d0d9110e44943e7df4926657370da3a8238f471f28c06a5419e"), looks := false }, kinds := [], alts := [], laidByText := true, laidKinds := [.data, .pinned], laidTests := true, laidLooks := .later }
def FileMergesCardSaid : Prop := Claim7.holds Tryd.pinned (.plain (OpenSpec.ofChange fileMergesSpec)) fileMergesCard

/-- THE SECOND FORM's CARD OF 'reveillelaw6.FileReads'. -/
def fileReadsUptoCard : Claim7 := { stood := { row := fileReadsUptoRow, standIns := [], harness := (true, "34be7de10e162d0d9110e44943e7df4926657370da3a8238f471f28c06a5419e"), looks := false }, kinds := [], alts := [], laidByText := true, laidKinds := [.data, .pinned], laidTests := true, laidLooks := .later }
def FileReadsUptoCardSaid : Prop := Claim7.holds Tryd.pinned (.plain (OpenSpec.upto fileReadsSpec)) fileReadsUptoCard

/-- THE SECOND FORM's CARD OF 'reveillelaw6.FileDrops'. -/
def fileDropsUptoCard : Claim7 := { stood := { row := fileDropsUptoRow, standIns := [], harness := (true, "34be7de10e162d0d9110e44943e7df4926657370da3a8238f471f28c06a5419e"), looks := false }, kinds := [], alts := [], laidByText := true, laidKinds := [.data, .pinned], laidTests := true, laidLooks := .later }
def FileDropsUptoCardSaid : Prop := Claim7.holds Tryd.pinned (.plain (OpenSpec.upto fileDropsSpec)) fileDropsUptoCard

/-- THE SECOND FORM's CARD OF 'reveillelaw6.FileBack'. -/
def fileBackUptoCard : Claim7 := { stood := { row := fileBackUptoRow, standIns := [], harness := (true, "34be7de10e162d0d9110e44943e7df4926657370da3a8238f471f28c06a5419e"), looks := false }, kinds := [], alts := [], laidByText := true, laidKinds := [.data, .pinned], laidTests := true, laidLooks := .later }
def FileBackUptoCardSaid : Prop := Claim7.holds Tryd.pinned (.plain (OpenSpec.upto fileBackSpec)) fileBackUptoCard

/-- THE SECOND FORM's CARD OF 'reveillelaw6.FileMerges'. -/
def fileMergesUptoCard : Claim7 := { stood := { row := fileMergesUptoRow, standIns := [], harness := (true, "34be7de10e162d0d9110e44943e7df4926657370da3a8238f471f28c06a5419e"), looks := false }, kinds := [], alts := [], laidByText := true, laidKinds := [.data, .pinned], laidTests := true, laidLooks := .later }
def FileMergesUptoCardSaid : Prop := Claim7.holds Tryd.pinned (.plain (OpenSpec.upto fileMergesSpec)) fileMergesUptoCard
end Rows
end Go.Proofs.YtbigbjfppaenfaaDoor
