/- Runs of the evaluator: each ends with true. -/
import Derived.Test.YtefajjeaakfbfaaGreatDoorProg
import Derived.Test.YtefajjeaakfbfaaGreatDoorEv5
namespace Go.Proofs.YtefajjeaakfbfaaGreatDoor.triggerOften
open Go.Ev
theorem k17to17_t : isTrue (@Ev.run ⟨[], [], noSum⟩ Tryz.prog 100000 5 [.res .u8 40 17, .bool true]) = true := by decide +kernel
theorem k18to18_t : isTrue (@Ev.run ⟨[], [], noSum⟩ Tryz.prog 100000 5 [.res .u8 40 18, .bool true]) = true := by decide +kernel
theorem k19to19_t : isTrue (@Ev.run ⟨[], [], noSum⟩ Tryz.prog 100000 5 [.res .u8 40 19, .bool true]) = true := by decide +kernel
end Go.Proofs.YtefajjeaakfbfaaGreatDoor.triggerOften
