/- Runs of the evaluator: each ends with true. -/
import Derived.Test.YtefajjeaakfbfaaGreatDoorProg
import Derived.Test.YtefajjeaakfbfaaGreatDoorEv5
namespace Go.Proofs.YtefajjeaakfbfaaGreatDoor.triggerSockets
open Go.Ev
theorem k22_t : isTrue (@Ev.run ⟨[], [], noSum⟩ Tryz.prog 100000 4 [.res .u8 30 22, .bool true]) = true := by decide +kernel
theorem k23_f : isTrue (@Ev.run ⟨[], [], noSum⟩ Tryz.prog 100000 4 [.res .u8 30 23, .bool false]) = true := by decide +kernel
theorem k23_t : isTrue (@Ev.run ⟨[], [], noSum⟩ Tryz.prog 100000 4 [.res .u8 30 23, .bool true]) = true := by decide +kernel
end Go.Proofs.YtefajjeaakfbfaaGreatDoor.triggerSockets
