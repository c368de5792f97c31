/- Runs of the evaluator: each ends with true. -/
import Derived.Test.YtefajjeaakfbfaaGreatDoorProg
import Derived.Test.YtefajjeaakfbfaaGreatDoorEv5
namespace Go.Proofs.YtefajjeaakfbfaaGreatDoor.triggerOften
open Go.Ev
theorem k11to11_t : isTrue (@Ev.run ⟨[], [], noSum⟩ Tryz.prog 100000 5 [.res .u8 40 11, .bool true]) = true := by decide +kernel
theorem k12to12_t : isTrue (@Ev.run ⟨[], [], noSum⟩ Tryz.prog 100000 5 [.res .u8 40 12, .bool true]) = true := by decide +kernel
theorem k13to13_t : isTrue (@Ev.run ⟨[], [], noSum⟩ Tryz.prog 100000 5 [.res .u8 40 13, .bool true]) = true := by decide +kernel
end Go.Proofs.YtefajjeaakfbfaaGreatDoor.triggerOften
