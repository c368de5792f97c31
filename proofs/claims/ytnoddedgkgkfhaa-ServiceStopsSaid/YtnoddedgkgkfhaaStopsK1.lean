/- Runs of the evaluator: each ends with true. -/
import Derived.Test.YtnoddedgkgkfhaaProg
import Derived.Test.YtnoddedgkgkfhaaEv5
namespace Go.Proofs.Ytnoddedgkgkfhaa.serviceStops
open Go.Ev
theorem k1_Lm0_f : isTrue (@Ev.run ⟨[(0, 0)], [], noSum⟩ Try.prog 100000 11 [.res .u8 8 1, .slx 0 0 0 0 [(0, 1)], .bool false]) = true := by decide +kernel
theorem k1_Lm0_t : isTrue (@Ev.run ⟨[(0, 0)], [], noSum⟩ Try.prog 100000 11 [.res .u8 8 1, .slx 0 0 0 0 [(0, 1)], .bool true]) = true := by decide +kernel
theorem k1_L1up_f : isTrue (@runR ⟨[(0, 255), (1, 9223372036854775807)], [], noSum⟩ Try.prog 100000 11 [.res .u8 8 1, .slx 0 0 1 0 [(1, 1)], .bool false] [(0, 1, [(.sym .u8 0 [(0, 1)])])] 1) = true := by decide +kernel
theorem k1_L1up_t : isTrue (@runR ⟨[(0, 255), (1, 9223372036854775807)], [], noSum⟩ Try.prog 100000 11 [.res .u8 8 1, .slx 0 0 1 0 [(1, 1)], .bool true] [(0, 1, [(.sym .u8 0 [(0, 1)])])] 1) = true := by decide +kernel
theorem k2_Lnil_f : isTrue (@Ev.run ⟨[], [], noSum⟩ Try.prog 100000 11 [.res .u8 8 2, .nils, .bool false]) = true := by decide +kernel
theorem k2_Lnil_t : isTrue (@Ev.run ⟨[], [], noSum⟩ Try.prog 100000 11 [.res .u8 8 2, .nils, .bool true]) = true := by decide +kernel
end Go.Proofs.Ytnoddedgkgkfhaa.serviceStops
