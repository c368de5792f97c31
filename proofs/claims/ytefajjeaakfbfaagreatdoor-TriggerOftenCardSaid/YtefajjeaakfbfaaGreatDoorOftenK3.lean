/- Runs of the evaluator: each ends with true. -/
import Derived.Test.YtefajjeaakfbfaaGreatDoorProg
import Derived.Test.YtefajjeaakfbfaaGreatDoorEv5
namespace Go.Proofs.YtefajjeaakfbfaaGreatDoor.triggerOften
open Go.Ev
theorem k9to9_f : isTrue (@Ev.run ⟨[], [], noSum⟩ Tryz.prog 100000 5 [.res .u8 40 9, .bool false]) = true := by decide +kernel
theorem k10to10_f : isTrue (@Ev.run ⟨[], [], noSum⟩ Tryz.prog 100000 5 [.res .u8 40 10, .bool false]) = true := by decide +kernel
theorem k11to11_f : isTrue (@Ev.run ⟨[], [], noSum⟩ Tryz.prog 100000 5 [.res .u8 40 11, .bool false]) = true := by decide +kernel
end Go.Proofs.YtefajjeaakfbfaaGreatDoor.triggerOften
