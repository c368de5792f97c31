/- Runs of the evaluator: each ends with true. -/
import Derived.Test.YtnoddedgkgkfhaaProg
import Derived.Test.YtnoddedgkgkfhaaEv5
namespace Go.Proofs.Ytnoddedgkgkfhaa.serviceStops
open Go.Ev
theorem k2_Lm1_f : isTrue (@Ev.run ⟨[(0, 1)], [], noSum⟩ Try.prog 100000 11 [.res .u8 8 2, .slx 0 0 0 0 [(0, 1)], .bool false]) = true := by decide +kernel
theorem k2_Lm1_t : isTrue (@Ev.run ⟨[(0, 1)], [], noSum⟩ Try.prog 100000 11 [.res .u8 8 2, .slx 0 0 0 0 [(0, 1)], .bool true]) = true := by decide +kernel
theorem k2_L2up_f : isTrue (@runR ⟨[(0, 255), (0, 255), (2, 9223372036854775807)], [], noSum⟩ Try.prog 100000 11 [.res .u8 8 2, .slx 0 0 2 0 [(2, 1)], .bool false] [(0, 2, [(.sym .u8 0 [(0, 1)]), (.sym .u8 0 [(1, 1)])])] 1) = true := by decide +kernel
theorem k2_L2up_t : isTrue (@runR ⟨[(0, 255), (0, 255), (2, 9223372036854775807)], [], noSum⟩ Try.prog 100000 11 [.res .u8 8 2, .slx 0 0 2 0 [(2, 1)], .bool true] [(0, 2, [(.sym .u8 0 [(0, 1)]), (.sym .u8 0 [(1, 1)])])] 1) = true := by decide +kernel
theorem k3_Lnil_f : isTrue (@Ev.run ⟨[], [], noSum⟩ Try.prog 100000 11 [.res .u8 8 3, .nils, .bool false]) = true := by decide +kernel
theorem k3_Lnil_t : isTrue (@Ev.run ⟨[], [], noSum⟩ Try.prog 100000 11 [.res .u8 8 3, .nils, .bool true]) = true := by decide +kernel
end Go.Proofs.Ytnoddedgkgkfhaa.serviceStops
