/- Runs of the evaluator: each ends with true. -/
import Derived.Test.YtefajjeaakfbfaaGreatDoorProg
import Derived.Test.YtefajjeaakfbfaaGreatDoorEv5
namespace Go.Proofs.YtefajjeaakfbfaaGreatDoor.triggerOften
open Go.Ev
theorem k8to8_t : isTrue (@Ev.run ⟨[], [], noSum⟩ Tryz.prog 100000 5 [.res .u8 40 8, .bool true]) = true := by decide +kernel
theorem k9to9_t : isTrue (@Ev.run ⟨[], [], noSum⟩ Tryz.prog 100000 5 [.res .u8 40 9, .bool true]) = true := by decide +kernel
theorem k10to10_t : isTrue (@Ev.run ⟨[], [], noSum⟩ Tryz.prog 100000 5 [.res .u8 40 10, .bool true]) = true := by decide +kernel
end Go.Proofs.YtefajjeaakfbfaaGreatDoor.triggerOften
