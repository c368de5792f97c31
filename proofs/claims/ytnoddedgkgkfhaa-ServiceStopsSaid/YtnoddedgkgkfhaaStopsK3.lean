/- Runs of the evaluator: each ends with true. -/
import Derived.Test.YtnoddedgkgkfhaaProg
import Derived.Test.YtnoddedgkgkfhaaEv5
namespace Go.Proofs.Ytnoddedgkgkfhaa.serviceStops
open Go.Ev
theorem k3_Lm2_f : isTrue (@Ev.run ⟨[(0, 2)], [], noSum⟩ Try.prog 100000 11 [.res .u8 8 3, .slx 0 0 0 0 [(0, 1)], .bool false]) = true := by decide +kernel
theorem k3_Lm2_t : isTrue (@Ev.run ⟨[(0, 2)], [], noSum⟩ Try.prog 100000 11 [.res .u8 8 3, .slx 0 0 0 0 [(0, 1)], .bool true]) = true := by decide +kernel
theorem k3_L3up_f : isTrue (@runR ⟨[(0, 255), (0, 255), (0, 255), (3, 9223372036854775807)], [], noSum⟩ Try.prog 100000 11 [.res .u8 8 3, .slx 0 0 3 0 [(3, 1)], .bool false] [(0, 3, [(.sym .u8 0 [(0, 1)]), (.sym .u8 0 [(1, 1)]), (.sym .u8 0 [(2, 1)])])] 1) = true := by decide +kernel
theorem k3_L3up_t : isTrue (@runR ⟨[(0, 255), (0, 255), (0, 255), (3, 9223372036854775807)], [], noSum⟩ Try.prog 100000 11 [.res .u8 8 3, .slx 0 0 3 0 [(3, 1)], .bool true] [(0, 3, [(.sym .u8 0 [(0, 1)]), (.sym .u8 0 [(1, 1)]), (.sym .u8 0 [(2, 1)])])] 1) = true := by decide +kernel
theorem k4_Lnil_f : isTrue (@Ev.run ⟨[], [], noSum⟩ Try.prog 100000 11 [.res .u8 8 4, .nils, .bool false]) = true := by decide +kernel
theorem k4_Lnil_t : isTrue (@Ev.run ⟨[], [], noSum⟩ Try.prog 100000 11 [.res .u8 8 4, .nils, .bool true]) = true := by decide +kernel
end Go.Proofs.Ytnoddedgkgkfhaa.serviceStops
