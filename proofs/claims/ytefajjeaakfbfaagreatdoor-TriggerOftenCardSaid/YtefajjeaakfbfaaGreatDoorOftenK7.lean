/- Runs of the evaluator: each ends with true. -/
import Derived.Test.YtefajjeaakfbfaaGreatDoorProg
import Derived.Test.YtefajjeaakfbfaaGreatDoorEv5
namespace Go.Proofs.YtefajjeaakfbfaaGreatDoor.triggerOften
open Go.Ev
theorem k21to39_f : isTrue (@Ev.run ⟨[(21, 39), (0, 6)], [], noSum⟩ Tryz.prog 100000 5 [.sym .u8 0 [(0, 1), (1, 40)], .bool false]) = true := by decide +kernel
theorem k0to0_t : isTrue (@Ev.run ⟨[], [], noSum⟩ Tryz.prog 100000 5 [.res .u8 40 0, .bool true]) = true := by decide +kernel
theorem k1to1_t : isTrue (@Ev.run ⟨[], [], noSum⟩ Tryz.prog 100000 5 [.res .u8 40 1, .bool true]) = true := by decide +kernel
end Go.Proofs.YtefajjeaakfbfaaGreatDoor.triggerOften
