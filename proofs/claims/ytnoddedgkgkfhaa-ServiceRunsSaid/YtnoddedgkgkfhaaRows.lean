/-
  No cell of these rows narrows 'for every input' (looked for: loops, veiled, ifaces, maps, wideKeys, modest, calm, conditions, laid).
  DERIVED. THE GIVEN ROWS OF THIS SEAT. 11 by the template 'for every input the law returns true; each argument reads behind the call as it read before'; 0 by the template 'total and deterministic' (their statements: YtnoddedgkgkfhaaTotals.lean).
  GIVEN WITH THE SEED: the statements are not yours to turn. If you find one false, say at which input.
  Laid BY PROGRAM, IN A SANDBOX (cutbox-rows.mjs): the forced cells as the released guide's own fill.sh prints them over the translation 65bb0d5f592f7119… (all of the seat's roots in one cut). By AI agents, Wed Nov 11 2026. No macro, syntax, notation, axiom, sorry.
-/
import Derived.Test.YtnoddedgkgkfhaaChecked
import GoSem.Claim
import GoSem.ClaimJoined
import GoSem.ClaimMapViews
import Derived.JoinedTies
import Derived.KernelRfl
namespace Go.Proofs.Ytnoddedgkgkfhaa
/- THE CELL 'sum', in the pinned program and in every row, IS THE sha256 OF THE DUMP (.gsa) THAT YtnoddedgkgkfhaaProg.lean LOADS. Nothing in Lean hashes anything: it is a label: what it is worth is what the hold of that sum in a sandbox is worth. -/
noncomputable def Try.pinned : Pinned := { name := "ytnoddedgkgkfhaa", sum := "65bb0d5f592f7119456c6888d4a1e45bb6d1c61c2b22598435d056df455dfea7", checked := Try.checked }
namespace Rows
def none {H : Type} : Left H := { results := [], args := [] }

/-- 'reveillelaw20.ServiceStays': WHATEVER THE INPUT: true; the input reads as it did. -/
def serviceStaysSpec : ChangeSpec := { name := "serviceStays", fn := fun _ => fun
  | [d1, d2] => { results := [.lit (.bool true)], args := [d1, d2] }
  | _ => none }
def serviceStaysRow : OpenClaim := { program := "ytnoddedgkgkfhaa", sum := "65bb0d5f592f7119456c6888d4a1e45bb6d1c61c2b22598435d056df455dfea7", func := "reveille/reveillelaw20.ServiceStays", spec := "serviceStays", unfollowed := true, recurses := true, apart := false }
def ServiceStaysSaid : Prop := serviceStaysRow.holds Try.pinned (OpenSpec.ofChange serviceStaysSpec)

/-- ITS FALSE NEIGHBOUR: 'it returns false'. Refute it at one input. -/
def serviceStaysWrong : ChangeSpec := { name := "serviceStays", fn := fun _ => fun
  | [d1, d2] => { results := [.lit (.bool false)], args := [d1, d2] }
  | _ => none }
def ServiceStaysWrongFalsely : Prop := serviceStaysRow.holds Try.pinned (OpenSpec.ofChange serviceStaysWrong)

/-- 'reveillelaw20.ServiceLimits': WHATEVER THE INPUT: true; the input reads as it did. -/
def serviceLimitsSpec : ChangeSpec := { name := "serviceLimits", fn := fun _ => fun
  | [d1, d2] => { results := [.lit (.bool true)], args := [d1, d2] }
  | _ => none }
def serviceLimitsRow : OpenClaim := { program := "ytnoddedgkgkfhaa", sum := "65bb0d5f592f7119456c6888d4a1e45bb6d1c61c2b22598435d056df455dfea7", func := "reveille/reveillelaw20.ServiceLimits", spec := "serviceLimits", unfollowed := true, recurses := true, apart := false }
def ServiceLimitsSaid : Prop := serviceLimitsRow.holds Try.pinned (OpenSpec.ofChange serviceLimitsSpec)

/-- ITS FALSE NEIGHBOUR: 'it returns false'. Refute it at one input. -/
def serviceLimitsWrong : ChangeSpec := { name := "serviceLimits", fn := fun _ => fun
  | [d1, d2] => { results := [.lit (.bool false)], args := [d1, d2] }
  | _ => none }
def ServiceLimitsWrongFalsely : Prop := serviceLimitsRow.holds Try.pinned (OpenSpec.ofChange serviceLimitsWrong)

/-- 'reveillelaw20.ServiceStages': WHATEVER THE INPUT: true; the input reads as it did. -/
def serviceStagesSpec : ChangeSpec := { name := "serviceStages", fn := fun _ => fun
  | [d1, d2] => { results := [.lit (.bool true)], args := [d1, d2] }
  | _ => none }
def serviceStagesRow : OpenClaim := { program := "ytnoddedgkgkfhaa", sum := "65bb0d5f592f7119456c6888d4a1e45bb6d1c61c2b22598435d056df455dfea7", func := "reveille/reveillelaw20.ServiceStages", spec := "serviceStages", unfollowed := true, recurses := true, apart := false }
def ServiceStagesSaid : Prop := serviceStagesRow.holds Try.pinned (OpenSpec.ofChange serviceStagesSpec)

/-- ITS FALSE NEIGHBOUR: 'it returns false'. Refute it at one input. -/
def serviceStagesWrong : ChangeSpec := { name := "serviceStages", fn := fun _ => fun
  | [d1, d2] => { results := [.lit (.bool false)], args := [d1, d2] }
  | _ => none }
def ServiceStagesWrongFalsely : Prop := serviceStagesRow.holds Try.pinned (OpenSpec.ofChange serviceStagesWrong)

/-- 'reveillelaw20.ServiceTypes': WHATEVER THE INPUT: true; the input reads as it did. -/
def serviceTypesSpec : ChangeSpec := { name := "serviceTypes", fn := fun _ => fun
  | [d1, d2] => { results := [.lit (.bool true)], args := [d1, d2] }
  | _ => none }
def serviceTypesRow : OpenClaim := { program := "ytnoddedgkgkfhaa", sum := "65bb0d5f592f7119456c6888d4a1e45bb6d1c61c2b22598435d056df455dfea7", func := "reveille/reveillelaw20.ServiceTypes", spec := "serviceTypes", unfollowed := true, recurses := true, apart := false }
def ServiceTypesSaid : Prop := serviceTypesRow.holds Try.pinned (OpenSpec.ofChange serviceTypesSpec)

/-- ITS FALSE NEIGHBOUR: 'it returns false'. Refute it at one input. -/
def serviceTypesWrong : ChangeSpec := { name := "serviceTypes", fn := fun _ => fun
  | [d1, d2] => { results := [.lit (.bool false)], args := [d1, d2] }
  | _ => none }
def ServiceTypesWrongFalsely : Prop := serviceTypesRow.holds Try.pinned (OpenSpec.ofChange serviceTypesWrong)

/-- 'reveillelaw20.ServiceKills': WHATEVER THE INPUT: true; the input reads as it did. -/
def serviceKillsSpec : ChangeSpec := { name := "serviceKills", fn := fun _ => fun
  | [d1, d2] => { results := [.lit (.bool true)], args := [d1, d2] }
  | _ => none }
def serviceKillsRow : OpenClaim := { program := "ytnoddedgkgkfhaa", sum := "65bb0d5f592f7119456c6888d4a1e45bb6d1c61c2b22598435d056df455dfea7", func := "reveille/reveillelaw20.ServiceKills", spec := "serviceKills", unfollowed := true, recurses := true, apart := false }
def ServiceKillsSaid : Prop := serviceKillsRow.holds Try.pinned (OpenSpec.ofChange serviceKillsSpec)

/-- ITS FALSE NEIGHBOUR: 'it returns false'. Refute it at one input. -/
def serviceKillsWrong : ChangeSpec := { name := "serviceKills", fn := fun _ => fun
  | [d1, d2] => { results := [.lit (.bool false)], args := [d1, d2] }
  | _ => none }
def ServiceKillsWrongFalsely : Prop := serviceKillsRow.holds Try.pinned (OpenSpec.ofChange serviceKillsWrong)

/-- 'reveillelaw20.ServiceRestarts': WHATEVER THE INPUT: true; the input reads as it did. -/
def serviceRestartsSpec : ChangeSpec := { name := "serviceRestarts", fn := fun _ => fun
  | [d1, d2, d3, d4] => { results := [.lit (.bool true)], args := [d1, d2, d3, d4] }
  | _ => none }
def serviceRestartsRow : OpenClaim := { program := "ytnoddedgkgkfhaa", sum := "65bb0d5f592f7119456c6888d4a1e45bb6d1c61c2b22598435d056df455dfea7", func := "reveille/reveillelaw20.ServiceRestarts", spec := "serviceRestarts", unfollowed := true, recurses := true, apart := false }
def ServiceRestartsSaid : Prop := serviceRestartsRow.holds Try.pinned (OpenSpec.ofChange serviceRestartsSpec)

/-- ITS FALSE NEIGHBOUR: 'it returns false'. Refute it at one input. -/
def serviceRestartsWrong : ChangeSpec := { name := "serviceRestarts", fn := fun _ => fun
  | [d1, d2, d3, d4] => { results := [.lit (.bool false)], args := [d1, d2, d3, d4] }
  | _ => none }
def ServiceRestartsWrongFalsely : Prop := serviceRestartsRow.holds Try.pinned (OpenSpec.ofChange serviceRestartsWrong)

/-- 'reveillelaw20.ServiceWatches': WHATEVER THE INPUT: true; the input reads as it did. -/
def serviceWatchesSpec : ChangeSpec := { name := "serviceWatches", fn := fun _ => fun
  | [d1, d2, d3] => { results := [.lit (.bool true)], args := [d1, d2, d3] }
  | _ => none }
def serviceWatchesRow : OpenClaim := { program := "ytnoddedgkgkfhaa", sum := "65bb0d5f592f7119456c6888d4a1e45bb6d1c61c2b22598435d056df455dfea7", func := "reveille/reveillelaw20.ServiceWatches", spec := "serviceWatches", unfollowed := true, recurses := true, apart := false }
def ServiceWatchesSaid : Prop := serviceWatchesRow.holds Try.pinned (OpenSpec.ofChange serviceWatchesSpec)

/-- ITS FALSE NEIGHBOUR: 'it returns false'. Refute it at one input. -/
def serviceWatchesWrong : ChangeSpec := { name := "serviceWatches", fn := fun _ => fun
  | [d1, d2, d3] => { results := [.lit (.bool false)], args := [d1, d2, d3] }
  | _ => none }
def ServiceWatchesWrongFalsely : Prop := serviceWatchesRow.holds Try.pinned (OpenSpec.ofChange serviceWatchesWrong)

/-- 'reveillelaw20.ServiceOneshots': WHATEVER THE INPUT: true; the input reads as it did. -/
def serviceOneshotsSpec : ChangeSpec := { name := "serviceOneshots", fn := fun _ => fun
  | [d1, d2, d3] => { results := [.lit (.bool true)], args := [d1, d2, d3] }
  | _ => none }
def serviceOneshotsRow : OpenClaim := { program := "ytnoddedgkgkfhaa", sum := "65bb0d5f592f7119456c6888d4a1e45bb6d1c61c2b22598435d056df455dfea7", func := "reveille/reveillelaw20.ServiceOneshots", spec := "serviceOneshots", unfollowed := true, recurses := true, apart := false }
def ServiceOneshotsSaid : Prop := serviceOneshotsRow.holds Try.pinned (OpenSpec.ofChange serviceOneshotsSpec)

/-- ITS FALSE NEIGHBOUR: 'it returns false'. Refute it at one input. -/
def serviceOneshotsWrong : ChangeSpec := { name := "serviceOneshots", fn := fun _ => fun
  | [d1, d2, d3] => { results := [.lit (.bool false)], args := [d1, d2, d3] }
  | _ => none }
def ServiceOneshotsWrongFalsely : Prop := serviceOneshotsRow.holds Try.pinned (OpenSpec.ofChange serviceOneshotsWrong)

/-- 'reveillelaw20.ServiceStops': WHATEVER THE INPUT: true; the input reads as it did. -/
def serviceStopsSpec : ChangeSpec := { name := "serviceStops", fn := fun _ => fun
  | [d1, d2, d3] => { results := [.lit (.bool true)], args := [d1, d2, d3] }
  | _ => none }
def serviceStopsRow : OpenClaim := { program := "ytnoddedgkgkfhaa", sum := "65bb0d5f592f7119456c6888d4a1e45bb6d1c61c2b22598435d056df455dfea7", func := "reveille/reveillelaw20.ServiceStops", spec := "serviceStops", unfollowed := true, recurses := true, apart := false }
def ServiceStopsSaid : Prop := serviceStopsRow.holds Try.pinned (OpenSpec.ofChange serviceStopsSpec)

/-- ITS FALSE NEIGHBOUR: 'it returns false'. Refute it at one input. -/
def serviceStopsWrong : ChangeSpec := { name := "serviceStops", fn := fun _ => fun
  | [d1, d2, d3] => { results := [.lit (.bool false)], args := [d1, d2, d3] }
  | _ => none }
def ServiceStopsWrongFalsely : Prop := serviceStopsRow.holds Try.pinned (OpenSpec.ofChange serviceStopsWrong)

/-- 'reveillelaw20.ServiceModes': WHATEVER THE INPUT: true; the input reads as it did. -/
def serviceModesSpec : ChangeSpec := { name := "serviceModes", fn := fun _ => fun
  | [d1, d2] => { results := [.lit (.bool true)], args := [d1, d2] }
  | _ => none }
def serviceModesRow : OpenClaim := { program := "ytnoddedgkgkfhaa", sum := "65bb0d5f592f7119456c6888d4a1e45bb6d1c61c2b22598435d056df455dfea7", func := "reveille/reveillelaw20.ServiceModes", spec := "serviceModes", unfollowed := true, recurses := true, apart := false }
def ServiceModesSaid : Prop := serviceModesRow.holds Try.pinned (OpenSpec.ofChange serviceModesSpec)

/-- ITS FALSE NEIGHBOUR: 'it returns false'. Refute it at one input. -/
def serviceModesWrong : ChangeSpec := { name := "serviceModes", fn := fun _ => fun
  | [d1, d2] => { results := [.lit (.bool false)], args := [d1, d2] }
  | _ => none }
def ServiceModesWrongFalsely : Prop := serviceModesRow.holds Try.pinned (OpenSpec.ofChange serviceModesWrong)

/-- 'reveillelaw20.ServiceRuns': WHATEVER THE INPUT: true; the input reads as it did. -/
def serviceRunsSpec : ChangeSpec := { name := "serviceRuns", fn := fun _ => fun
  | [d1, d2, d3, d4] => { results := [.lit (.bool true)], args := [d1, d2, d3, d4] }
  | _ => none }
def serviceRunsRow : OpenClaim := { program := "ytnoddedgkgkfhaa", sum := "65bb0d5f592f7119456c6888d4a1e45bb6d1c61c2b22598435d056df455dfea7", func := "reveille/reveillelaw20.ServiceRuns", spec := "serviceRuns", unfollowed := true, recurses := true, apart := false }
def ServiceRunsSaid : Prop := serviceRunsRow.holds Try.pinned (OpenSpec.ofChange serviceRunsSpec)

/-- ITS FALSE NEIGHBOUR: 'it returns false'. Refute it at one input. -/
def serviceRunsWrong : ChangeSpec := { name := "serviceRuns", fn := fun _ => fun
  | [d1, d2, d3, d4] => { results := [.lit (.bool false)], args := [d1, d2, d3, d4] }
  | _ => none }
def ServiceRunsWrongFalsely : Prop := serviceRunsRow.holds Try.pinned (OpenSpec.ofChange serviceRunsWrong)

/- THE SECOND FORM. 'bulk': how many values and letters a reading holds, each counted each time it is reached (what is shared counts as often as it is met; a slice's spare places count too). A statement '..UptoSaid' is the law's where the arguments, and the package variables that the reading takes, are together of bulk at most 1048576: NARROWER than '..Said'. Prove '..Said' where nothing that the law and all that it calls make is longer than what came in: it says more and counts as full. Else prove '..UptoSaid'. A law counts once. -/
mutual
def uptoBulk {H : Type} : DataW H → Nat
  | .lit (.string bytes) => bytes.length + 1
  | .lit _ => 1
  | .nil => 1
  | .ptr d => uptoBulk d + 1
  | .slice elems spare => uptoBulkAll elems + uptoBulkAll spare + 1
  | .agg parts => uptoBulkAll parts + 1
  | .iface _ d => uptoBulk d + 1
  | .map entries => uptoBulkEntries entries + 1
  | .held _ => 1
def uptoBulkAll {H : Type} : List (DataW H) → Nat
  | [] => 0
  | d :: r => uptoBulk d + uptoBulkAll r
def uptoBulkEntries {H : Type} : List (Lit × DataW H) → Nat
  | [] => 0
  | x :: r => uptoBulkEntry x + uptoBulkEntries r
def uptoBulkEntry {H : Type} : Lit × DataW H → Nat
  | (.string bytes, d) => bytes.length + uptoBulk d + 1
  | (_, d) => uptoBulk d + 1
 end
def uptoSmall : (H : Type) → List (DataW H) → Bool := fun _ ds => decide (uptoBulkAll ds ≤ 1048576)
def OpenSpec.upto (s : _root_.Go.ChangeSpec) : _root_.Go.OpenSpec := { _root_.Go.OpenSpec.ofChange s with cond := some uptoSmall }

/-- 'reveillelaw20.ServiceStays', WHERE WHAT IT READS IS OF BULK AT MOST 1048576: true; the input reads as it did. -/
def serviceStaysUptoRow : OpenClaim := { program := "ytnoddedgkgkfhaa", sum := "65bb0d5f592f7119456c6888d4a1e45bb6d1c61c2b22598435d056df455dfea7", func := "reveille/reveillelaw20.ServiceStays", spec := "serviceStays", unfollowed := true, recurses := true, apart := false, narrowed := true }
def ServiceStaysUptoSaid : Prop := serviceStaysUptoRow.holds Try.pinned (OpenSpec.upto serviceStaysSpec)

/-- 'reveillelaw20.ServiceLimits', WHERE WHAT IT READS IS OF BULK AT MOST 1048576: true; the input reads as it did. -/
def serviceLimitsUptoRow : OpenClaim := { program := "ytnoddedgkgkfhaa", sum := "65bb0d5f592f7119456c6888d4a1e45bb6d1c61c2b22598435d056df455dfea7", func := "reveille/reveillelaw20.ServiceLimits", spec := "serviceLimits", unfollowed := true, recurses := true, apart := false, narrowed := true }
def ServiceLimitsUptoSaid : Prop := serviceLimitsUptoRow.holds Try.pinned (OpenSpec.upto serviceLimitsSpec)

/-- 'reveillelaw20.ServiceStages', WHERE WHAT IT READS IS OF BULK AT MOST 1048576: true; the input reads as it did. -/
def serviceStagesUptoRow : OpenClaim := { program := "ytnoddedgkgkfhaa", sum := "65bb0d5f592f7119456c6888d4a1e45bb6d1c61c2b22598435d056df455dfea7", func := "reveille/reveillelaw20.ServiceStages", spec := "serviceStages", unfollowed := true, recurses := true, apart := false, narrowed := true }
def ServiceStagesUptoSaid : Prop := serviceStagesUptoRow.holds Try.pinned (OpenSpec.upto serviceStagesSpec)

/-- 'reveillelaw20.ServiceTypes', WHERE WHAT IT READS IS OF BULK AT MOST 1048576: true; the input reads as it did. -/
def serviceTypesUptoRow : OpenClaim := { program := "ytnoddedgkgkfhaa", sum := "65bb0d5f592f7119456c6888d4a1e45bb6d1c61c2b22598435d056df455dfea7", func := "reveille/reveillelaw20.ServiceTypes", spec := "serviceTypes", unfollowed := true, recurses := true, apart := false, narrowed := true }
def ServiceTypesUptoSaid : Prop := serviceTypesUptoRow.holds Try.pinned (OpenSpec.upto serviceTypesSpec)

/-- 'reveillelaw20.ServiceKills', WHERE WHAT IT READS IS OF BULK AT MOST 1048576: true; the input reads as it did. -/
def serviceKillsUptoRow : OpenClaim := { program := "ytnoddedgkgkfhaa", sum := "65bb0d5f592f7119456c6888d4a1e45bb6d1c61c2b22598435d056df455dfea7", func := "reveille/reveillelaw20.ServiceKills", spec := "serviceKills", unfollowed := true, recurses := true, apart := false, narrowed := true }
def ServiceKillsUptoSaid : Prop := serviceKillsUptoRow.holds Try.pinned (OpenSpec.upto serviceKillsSpec)

/-- 'reveillelaw20.ServiceRestarts', WHERE WHAT IT READS IS OF BULK AT MOST 1048576: true; the input reads as it did. -/
def serviceRestartsUptoRow : OpenClaim := { program := "ytnoddedgkgkfhaa", sum := "65bb0d5f592f7119456c6888d4a1e45bb6d1c61c2b22598435d056df455dfea7", func := "reveille/reveillelaw20.ServiceRestarts", spec := "serviceRestarts", unfollowed := true, recurses := true, apart := false, narrowed := true }
def ServiceRestartsUptoSaid : Prop := serviceRestartsUptoRow.holds Try.pinned (OpenSpec.upto serviceRestartsSpec)

/-- 'reveillelaw20.ServiceWatches', WHERE WHAT IT READS IS OF BULK AT MOST 1048576: true; the input reads as it did. -/
def serviceWatchesUptoRow : OpenClaim := { program := "ytnoddedgkgkfhaa", sum := "65bb0d5f592f7119456c6888d4a1e45bb6d1c61c2b22598435d056df455dfea7", func := "reveille/reveillelaw20.ServiceWatches", spec := "serviceWatches", unfollowed := true, recurses := true, apart := false, narrowed := true }
def ServiceWatchesUptoSaid : Prop := serviceWatchesUptoRow.holds Try.pinned (OpenSpec.upto serviceWatchesSpec)

/-- 'reveillelaw20.ServiceOneshots', WHERE WHAT IT READS IS OF BULK AT MOST 1048576: true; the input reads as it did. -/
def serviceOneshotsUptoRow : OpenClaim := { program := "ytnoddedgkgkfhaa", sum := "65bb0d5f592f7119456c6888d4a1e45bb6d1c61c2b22598435d056df455dfea7", func := "reveille/reveillelaw20.ServiceOneshots", spec := "serviceOneshots", unfollowed := true, recurses := true, apart := false, narrowed := true }
def ServiceOneshotsUptoSaid : Prop := serviceOneshotsUptoRow.holds Try.pinned (OpenSpec.upto serviceOneshotsSpec)

/-- 'reveillelaw20.ServiceStops', WHERE WHAT IT READS IS OF BULK AT MOST 1048576: true; the input reads as it did. -/
def serviceStopsUptoRow : OpenClaim := { program := "ytnoddedgkgkfhaa", sum := "65bb0d5f592f7119456c6888d4a1e45bb6d1c61c2b22598435d056df455dfea7", func := "reveille/reveillelaw20.ServiceStops", spec := "serviceStops", unfollowed := true, recurses := true, apart := false, narrowed := true }
def ServiceStopsUptoSaid : Prop := serviceStopsUptoRow.holds Try.pinned (OpenSpec.upto serviceStopsSpec)

/-- 'reveillelaw20.ServiceModes', WHERE WHAT IT READS IS OF BULK AT MOST 1048576: true; the input reads as it did. -/
def serviceModesUptoRow : OpenClaim := { program := "ytnoddedgkgkfhaa", sum := "65bb0d5f592f7119456c6888d4a1e45bb6d1c61c2b22598435d056df455dfea7", func := "reveille/reveillelaw20.ServiceModes", spec := "serviceModes", unfollowed := true, recurses := true, apart := false, narrowed := true }
def ServiceModesUptoSaid : Prop := serviceModesUptoRow.holds Try.pinned (OpenSpec.upto serviceModesSpec)

/-- 'reveillelaw20.ServiceRuns', WHERE WHAT IT READS IS OF BULK AT MOST 1048576: true; the input reads as it did. -/
def serviceRunsUptoRow : OpenClaim := { program := "ytnoddedgkgkfhaa", sum := "65bb0d5f592f7119456c6888d4a1e45bb6d1c61c2b22598435d056df455dfea7", func := "reveille/reveillelaw20.ServiceRuns", spec := "serviceRuns", unfollowed := true, recurses := true, apart := false, narrowed := true }
def ServiceRunsUptoSaid : Prop := serviceRunsUptoRow.holds Try.pinned (OpenSpec.upto serviceRunsSpec)

end Rows
end Go.Proofs.Ytnoddedgkgkfhaa
