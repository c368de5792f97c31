/-
  DERIVED. GIVEN WITH THE SEED: THE CARDS: each row of YtefajjeaakfbfaaGreatDoorRows.lean that lists a variable, with what it lists TIED to the program's text (the seventh form; the later family's looks); each row that meets fmt, with fmt's text TOLD by the authors' own Lean function (tested against real Go, not proved from fmt's source: count such statements apart). THE CARD IS WHAT COUNTS. Prove the row's statement (the work); the ties are given (YtefajjeaakfbfaaGreatDoorTie.lean); close each card by the builder's one call (the guide's Derived/Test/ToyasCard.lean, 'card_holds'). Laid BY PROGRAM, IN A SANDBOX (cutbox-door.mjs). By AI agents, Wed Nov 11 2026. No macro, syntax, notation, axiom, sorry.
-/
import Derived.Test.YtefajjeaakfbfaaGreatDoorRows
import GoSem.ClaimSeven
namespace Go.Proofs.YtefajjeaakfbfaaGreatDoor
namespace Rows

/-- THE TIED CARD OF 'reveillelaw21.TriggerLimits'. -/
def triggerLimitsCard : Claim7 := { stood := { row := triggerLimitsRow, standIns := [], harness := (true, "75da4ab823b5e8fffe5d285422d492c4b5a412f7197b365a2b26c97816c654a1"), looks := true }, kinds := [], alts := [], laidByText := true, laidKinds := [.data, .data, .data, .data, .sentinel, .sentinel, .wider, .wider, .wider, .wider, .wider, .wider, .pinned], laidTests := true, laidLooks := .later }
def TriggerLimitsCardSaid : Prop := Claim7.holds Tryz.pinned (.plain (OpenSpec.ofChange triggerLimitsSpec)) triggerLimitsCard

/-- THE TIED CARD OF 'reveillelaw21.TriggerSockets'. -/
def triggerSocketsCard : Claim7 := { stood := { row := triggerSocketsRow, standIns := [], harness := (true, "75da4ab823b5e8fffe5d285422d492c4b5a412f7197b365a2b26c97816c654a1"), looks := true }, kinds := [], alts := [], laidByText := true, laidKinds := [.data, .data, .data, .data, .sentinel, .sentinel, .wider, .wider, .wider, .wider, .wider, .wider, .pinned], laidTests := true, laidLooks := .later }
def TriggerSocketsCardSaid : Prop := Claim7.holds Tryz.pinned (.plain (OpenSpec.ofChange triggerSocketsSpec)) triggerSocketsCard

/-- THE TIED CARD OF 'reveillelaw21.TriggerOften'. -/
def triggerOftenCard : Claim7 := { stood := { row := triggerOftenRow, standIns := [], harness := (true, "75da4ab823b5e8fffe5d285422d492c4b5a412f7197b365a2b26c97816c654a1"), looks := true }, kinds := [], alts := [], laidByText := true, laidKinds := [.data, .data, .data, .data, .sentinel, .sentinel, .wider, .wider, .wider, .wider, .wider, .wider, .pinned], laidTests := true, laidLooks := .later }
def TriggerOftenCardSaid : Prop := Claim7.holds Tryz.pinned (.plain (OpenSpec.ofChange triggerOftenSpec)) triggerOftenCard

/-- THE TIED CARD OF 'reveillelaw21.TriggerTimers'. -/
def triggerTimersCard : Claim7 := { stood := { row := triggerTimersRow, standIns := [], harness := (true, "75da4ab823b5e8fffe5d285422d492c4b5a412f7197b365a2b26c97816c654a1"), looks := true }, kinds := [], alts := [], laidByText := true, laidKinds := [.data, .data, .data, .data, .sentinel, .sentinel, .wider, .wider, .wider, .wider, .wider, .wider, .pinned], laidTests := true, laidLooks := .later }
def TriggerTimersCardSaid : Prop := Claim7.holds Tryz.pinned (.plain (OpenSpec.ofChange triggerTimersSpec)) triggerTimersCard

/-- THE TIED CARD OF 'reveillelaw21.TriggerMounts'. -/
def triggerMountsCard : Claim7 := { stood := { row := triggerMountsRow, standIns := [], harness := (true, "75da4ab823b5e8fffe5d285422d492c4b5a412f7197b365a2b26c97816c654a1"), looks := true }, kinds := [], alts := [], laidByText := true, laidKinds := [.data, .data, .data, .data, .sentinel, .sentinel, .wider, .wider, .wider, .wider, .wider, .wider, .pinned], laidTests := true, laidLooks := .later }
def TriggerMountsCardSaid : Prop := Claim7.holds Tryz.pinned (.plain (OpenSpec.ofChange triggerMountsSpec)) triggerMountsCard

/-- THE TIED CARD OF 'reveillelaw21.TriggerRuns'. -/
def triggerRunsCard : Claim7 := { stood := { row := triggerRunsRow, standIns := [], harness := (true, "75da4ab823b5e8fffe5d285422d492c4b5a412f7197b365a2b26c97816c654a1"), looks := true }, kinds := [], alts := [], laidByText := true, laidKinds := [.data, .data, .data, .data, .sentinel, .sentinel, .wider, .wider, .wider, .wider, .wider, .wider, .pinned], laidTests := true, laidLooks := .later }
def TriggerRunsCardSaid : Prop := Claim7.holds Tryz.pinned (.plain (OpenSpec.ofChange triggerRunsSpec)) triggerRunsCard

/-- THE SECOND FORM's CARD OF 'reveillelaw21.TriggerLimits'. -/
def triggerLimitsUptoCard : Claim7 := { stood := { row := triggerLimitsUptoRow, standIns := [], harness := (true, "75da4ab823b5e8fffe5d285422d492c4b5a412f7197b365a2b26c97816c654a1"), looks := true }, kinds := [], alts := [], laidByText := true, laidKinds := [.data, .data, .data, .data, .sentinel, .sentinel, .wider, .wider, .wider, .wider, .wider, .wider, .pinned], laidTests := true, laidLooks := .later }
def TriggerLimitsUptoCardSaid : Prop := Claim7.holds Tryz.pinned (.plain (OpenSpec.upto triggerLimitsSpec)) triggerLimitsUptoCard

/-- THE SECOND FORM's CARD OF 'reveillelaw21.TriggerSockets'. -/
def triggerSocketsUptoCard : Claim7 := { stood := { row := triggerSocketsUptoRow, standIns := [], harness := (true, "75da4ab823b5e8fffe5d285422d492c4b5a412f7197b365a2b26c97816c654a1"), looks := true }, kinds := [], alts := [], laidByText := true, laidKinds := [.data, .data, .data, .data, .sentinel, .sentinel, .wider, .wider, .wider, .wider, .wider, .wider, .pinned], laidTests := true, laidLooks := .later }
def TriggerSocketsUptoCardSaid : Prop := Claim7.holds Tryz.pinned (.plain (OpenSpec.upto triggerSocketsSpec)) triggerSocketsUptoCard

/-- THE SECOND FORM's CARD OF 'reveillelaw21.TriggerOften'. -/
def triggerOftenUptoCard : Claim7 := { stood := { row := triggerOftenUptoRow, standIns := [], harness := (true, "75da4ab823b5e8fffe5d285422d492c4b5a412f7197b365a2b26c97816c654a1"), looks := true }, kinds := [], alts := [], laidByText := true, laidKinds := [.data, .data, .data, .data, .sentinel, .sentinel, .wider, .wider, .wider, .wider, .wider, .wider, .pinned], laidTests := true, laidLooks := .later }
def TriggerOftenUptoCardSaid : Prop := Claim7.holds Tryz.pinned (.plain (OpenSpec.upto triggerOftenSpec)) triggerOftenUptoCard

/-- THE SECOND FORM's CARD OF 'reveillelaw21.TriggerTimers'. -/
def triggerTimersUptoCard : Claim7 := { stood := { row := triggerTimersUptoRow, standIns := [], harness := (true, "75da4ab823b5e8fffe5d285422d492c4b5a412f7197b365a2b26c97816c654a1"), looks := true }, kinds := [], alts := [], laidByText := true, laidKinds := [.data, .data, .data, .data, .sentinel, .sentinel, .wider, .wider, .wider, .wider, .wider, .wider, .pinned], laidTests := true, laidLooks := .later }
def TriggerTimersUptoCardSaid : Prop := Claim7.holds Tryz.pinned (.plain (OpenSpec.upto triggerTimersSpec)) triggerTimersUptoCard

/-- THE SECOND FORM's CARD OF 'reveillelaw21.TriggerMounts'. -/
def triggerMountsUptoCard : Claim7 := { stood := { row := triggerMountsUptoRow, standIns := [], harness := (true, "75da4ab823b5e8fffe5d285422d492c4b5a412f7197b365a2b26c97816c654a1"), looks := true }, kinds := [], alts := [], laidByText := true, laidKinds := [.data, .data, .data, .data, .sentinel, .sentinel, .wider, .wider, .wider, .wider, .wider, .wider, .pinned], laidTests := true, laidLooks := .later }
def TriggerMountsUptoCardSaid : Prop := Claim7.holds Tryz.pinned (.plain (OpenSpec.upto triggerMountsSpec)) triggerMountsUptoCard

/-- THE SECOND FORM's CARD OF 'reveillelaw21.TriggerRuns'. -/
def triggerRunsUptoCard : Claim7 := { stood := { row := triggerRunsUptoRow, standIns := [], harness := (true, "75da4ab823b5e8fffe5d285422d492c4b5a412f7197b365a2b26c97816c654a1"), looks := true }, kinds := [], alts := [], laidByText := true, laidKinds := [.data, .data, .data, .data, .sentinel, .sentinel, .wider, .wider, .wider, .wider, .wider, .wider, .pinned], laidTests := true, laidLooks := .later }
def TriggerRunsUptoCardSaid : Prop := Claim7.holds Tryz.pinned (.plain (OpenSpec.upto triggerRunsSpec)) triggerRunsUptoCard
end Rows
end Go.Proofs.YtefajjeaakfbfaaGreatDoor
