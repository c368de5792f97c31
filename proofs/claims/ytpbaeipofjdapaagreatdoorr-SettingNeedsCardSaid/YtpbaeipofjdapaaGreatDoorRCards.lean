/-
  DERIVED. GIVEN WITH THE SEED: THE CARDS: each row of YtpbaeipofjdapaaGreatDoorRRows.lean that lists a variable, with what it lists TIED to the program's text (the seventh form; the later family's looks); each row that meets fmt, with fmt's text TOLD by the authors' own Lean function (tested against real Go, not proved from fmt's source: count such statements apart). THE CARD IS WHAT COUNTS. Prove the row's statement (the work); the ties are given (YtpbaeipofjdapaaGreatDoorRTie.lean); close each card by the builder's one call (the guide's Derived/Test/ToyasCard.lean, 'card_holds'). Laid BY PROGRAM, IN A SANDBOX (cutbox-door.mjs). By AI agents, Wed Nov 11 2026. No macro, syntax, notation, axiom, sorry.
-/
import Derived.Test.YtpbaeipofjdapaaGreatDoorRRows
import GoSem.ClaimSeven
namespace Go.Proofs.YtpbaeipofjdapaaGreatDoorR
namespace Rows

/-- THE TIED CARD OF 'reveillelaw7.SettingLists'. -/
def settingListsCard : Claim7 := { stood := { row := settingListsRow, standIns := [], harness := (true, "104ffdf91ad53339d3410f4c8adab15d67116a138834f6ab51f410c470afc424"), looks := true }, kinds := [], alts := [], laidByText := true, laidKinds := [.data, .data, .data, .data, .sentinel, .sentinel, .wider, .wider, .wider, .wider, .wider, .wider, .pinned], laidTests := true, laidLooks := .later }
def SettingListsCardSaid : Prop := Claim7.holds Tryz.pinned (.plain (OpenSpec.ofChange settingListsSpec)) settingListsCard

/-- THE TIED CARD OF 'reveillelaw7.SettingLast'. -/
def settingLastCard : Claim7 := { stood := { row := settingLastRow, standIns := [], harness := (true, "104ffdf91ad53339d3410f4c8adab15d67116a138834f6ab51f410c470afc424"), looks := true }, kinds := [], alts := [], laidByText := true, laidKinds := [.data, .data, .data, .data, .sentinel, .sentinel, .wider, .wider, .wider, .wider, .wider, .wider, .pinned], laidTests := true, laidLooks := .later }
def SettingLastCardSaid : Prop := Claim7.holds Tryz.pinned (.plain (OpenSpec.ofChange settingLastSpec)) settingLastCard

/-- THE TIED CARD OF 'reveillelaw7.SettingNeeds'. -/
def settingNeedsCard : Claim7 := { stood := { row := settingNeedsRow, standIns := [], harness := (true, "104ffdf91ad53339d3410f4c8adab15d67116a138834f6ab51f410c470afc424"), looks := true }, kinds := [], alts := [], laidByText := true, laidKinds := [.data, .data, .data, .data, .sentinel, .sentinel, .wider, .wider, .wider, .wider, .wider, .wider, .pinned], laidTests := true, laidLooks := .later }
def SettingNeedsCardSaid : Prop := Claim7.holds Tryz.pinned (.plain (OpenSpec.ofChange settingNeedsSpec)) settingNeedsCard

/-- THE TIED CARD OF 'reveillelaw7.SettingNames'. -/
def settingNamesCard : Claim7 := { stood := { row := settingNamesRow, standIns := [], harness := (true, "104ffdf91ad53339d3410f4c8adab15d67116a138834f6ab51f410c470afc424"), looks := true }, kinds := [], alts := [], laidByText := true, laidKinds := [.data, .data, .data, .data, .sentinel, .sentinel, .wider, .wider, .wider, .wider, .wider, .wider, .pinned], laidTests := true, laidLooks := .later }
def SettingNamesCardSaid : Prop := Claim7.holds Tryz.pinned (.plain (OpenSpec.ofChange settingNamesSpec)) settingNamesCard

/-- THE SECOND FORM's CARD OF 'reveillelaw7.SettingLists'. -/
def settingListsUptoCard : Claim7 := { stood := { row := settingListsUptoRow, standIns := [], harness := (true, "104ffdf91ad53339d3410f4c8adab15d67116a138834f6ab51f410c470afc424"), looks := true }, kinds := [], alts := [], laidByText := true, laidKinds := [.data, .data, .data, .data, .sentinel, .sentinel, .wider, .wider, .wider, .wider, .wider, .wider, .pinned], laidTests := true, laidLooks := .later }
def SettingListsUptoCardSaid : Prop := Claim7.holds Tryz.pinned (.plain (OpenSpec.upto settingListsSpec)) settingListsUptoCard

/-- THE SECOND FORM's CARD OF 'reveillelaw7.SettingLast'. -/
def settingLastUptoCard : Claim7 := { stood := { row := settingLastUptoRow, standIns := [], harness := (true, "104ffdf91ad53339d3410f4c8adab15d67116a138834f6ab51f410c470afc424"), looks := true }, kinds := [], alts := [], laidByText := true, laidKinds := [.data, .data, .data, .data, .sentinel, .sentinel, .wider, .wider, .wider, .wider, .wider, .wider, .pinned], laidTests := true, laidLooks := .later }
def SettingLastUptoCardSaid : Prop := Claim7.holds Tryz.pinned (.plain (OpenSpec.upto settingLastSpec)) settingLastUptoCard

/-- THE SECOND FORM's CARD OF 'reveillelaw7.SettingNeeds'. -/
def settingNeedsUptoCard : Claim7 := { stood := { row := settingNeedsUptoRow, standIns := [], harness := (true, "104ffdf91ad53339d3410f4c8adab15d67116a138834f6ab51f410c470afc424"), looks := true }, kinds := [], alts := [], laidByText := true, laidKinds := [.data, .data, .data, .data, .sentinel, .sentinel, .wider, .wider, .wider, .wider, .wider, .wider, .pinned], laidTests := true, laidLooks := .later }
def SettingNeedsUptoCardSaid : Prop := Claim7.holds Tryz.pinned (.plain (OpenSpec.upto settingNeedsSpec)) settingNeedsUptoCard

/-- THE SECOND FORM's CARD OF 'reveillelaw7.SettingNames'. -/
def settingNamesUptoCard : Claim7 := { stood := { row := settingNamesUptoRow, standIns := [], harness := (true, "104ffdf91ad53339d3410f4c8adab15d67116a138834f6ab51f410c470afc424"), looks := true }, kinds := [], alts := [], laidByText := true, laidKinds := [.data, .data, .data, .data, .sentinel, .sentinel, .wider, .wider, .wider, .wider, .wider, .wider, .pinned], laidTests := true, laidLooks := .later }
def SettingNamesUptoCardSaid : Prop := Claim7.holds Tryz.pinned (.plain (OpenSpec.upto settingNamesSpec)) settingNamesUptoCard
end Rows
end Go.Proofs.YtpbaeipofjdapaaGreatDoorR
