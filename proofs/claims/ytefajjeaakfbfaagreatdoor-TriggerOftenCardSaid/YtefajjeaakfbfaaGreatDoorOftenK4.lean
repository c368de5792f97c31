/- Runs of the evaluator: each ends with true. -/
import Derived.Test.YtefajjeaakfbfaaGreatDoorProg
import Derived.Test.YtefajjeaakfbfaaGreatDoorEv5
namespace Go.Proofs.YtefajjeaakfbfaaGreatDoor.triggerOften
open Go.Ev
theorem k12to12_f : isTrue (@Ev.run ⟨[], [], noSum⟩ Tryz.prog 100000 5 [.res .u8 40 12, .bool false]) = true := by decide +kernel
theorem k13to13_f : isTrue (@Ev.run ⟨[], [], noSum⟩ Tryz.prog 100000 5 [.res .u8 40 13, .bool false]) = true := by decide +kernel
theorem k14to14_f : isTrue (@Ev.run ⟨[], [], noSum⟩ Tryz.prog 100000 5 [.res .u8 40 14, .bool false]) = true := by decide +kernel
end Go.Proofs.YtefajjeaakfbfaaGreatDoor.triggerOften
