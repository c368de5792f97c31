/- Runs of the evaluator: each ends with true. -/
import Derived.Test.YtefajjeaakfbfaaGreatDoorProg
import Derived.Test.YtefajjeaakfbfaaGreatDoorEv5
namespace Go.Proofs.YtefajjeaakfbfaaGreatDoor.triggerSockets
open Go.Ev
theorem k19_t : isTrue (@Ev.run ⟨[], [], noSum⟩ Tryz.prog 100000 4 [.res .u8 30 19, .bool true]) = true := by decide +kernel
theorem k20_f : isTrue (@Ev.run ⟨[], [], noSum⟩ Tryz.prog 100000 4 [.res .u8 30 20, .bool false]) = true := by decide +kernel
theorem k20_t : isTrue (@Ev.run ⟨[], [], noSum⟩ Tryz.prog 100000 4 [.res .u8 30 20, .bool true]) = true := by decide +kernel
end Go.Proofs.YtefajjeaakfbfaaGreatDoor.triggerSockets
