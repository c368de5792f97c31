/- Runs of the evaluator: each ends with true. -/
import Derived.Test.YtefajjeaakfbfaaGreatDoorProg
import Derived.Test.YtefajjeaakfbfaaGreatDoorEv5
namespace Go.Proofs.YtefajjeaakfbfaaGreatDoor.triggerMounts
open Go.Ev
theorem kf_f : isTrue (@Ev.run ⟨[], []⟩ Tryz.prog 100000 7 [.bool false, .bool false]) = true := by decide +kernel
theorem kf_t : isTrue (@Ev.run ⟨[], []⟩ Tryz.prog 100000 7 [.bool false, .bool true]) = true := by decide +kernel
theorem kt_f : isTrue (@Ev.run ⟨[], []⟩ Tryz.prog 100000 7 [.bool true, .bool false]) = true := by decide +kernel
theorem kt_t : isTrue (@Ev.run ⟨[], []⟩ Tryz.prog 100000 7 [.bool true, .bool true]) = true := by decide +kernel
end Go.Proofs.YtefajjeaakfbfaaGreatDoor.triggerMounts
