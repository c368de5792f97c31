/- Runs of the evaluator: each ends with true. -/
import Derived.Test.YtnoddedgkgkfhaaProg
import Derived.Test.YtnoddedgkgkfhaaEv5
namespace Go.Proofs.Ytnoddedgkgkfhaa.serviceStops
open Go.Ev
theorem k4_Lm3_f : isTrue (@Ev.run ⟨[(0, 3)], [], noSum⟩ Try.prog 100000 11 [.res .u8 8 4, .slx 0 0 0 0 [(0, 1)], .bool false]) = true := by decide +kernel
theorem k4_Lm3_t : isTrue (@Ev.run ⟨[(0, 3)], [], noSum⟩ Try.prog 100000 11 [.res .u8 8 4, .slx 0 0 0 0 [(0, 1)], .bool true]) = true := by decide +kernel
theorem k4_L4up_f : isTrue (@runR ⟨[(0, 255), (0, 255), (0, 255), (0, 255), (4, 9223372036854775807)], [], noSum⟩ Try.prog 100000 11 [.res .u8 8 4, .slx 0 0 4 0 [(4, 1)], .bool false] [(0, 4, [(.sym .u8 0 [(0, 1)]), (.sym .u8 0 [(1, 1)]), (.sym .u8 0 [(2, 1)]), (.sym .u8 0 [(3, 1)])])] 1) = true := by decide +kernel
theorem k4_L4up_t : isTrue (@runR ⟨[(0, 255), (0, 255), (0, 255), (0, 255), (4, 9223372036854775807)], [], noSum⟩ Try.prog 100000 11 [.res .u8 8 4, .slx 0 0 4 0 [(4, 1)], .bool true] [(0, 4, [(.sym .u8 0 [(0, 1)]), (.sym .u8 0 [(1, 1)]), (.sym .u8 0 [(2, 1)]), (.sym .u8 0 [(3, 1)])])] 1) = true := by decide +kernel
theorem k5_Lnil_f : isTrue (@Ev.run ⟨[], [], noSum⟩ Try.prog 100000 11 [.res .u8 8 5, .nils, .bool false]) = true := by decide +kernel
theorem k5_Lnil_t : isTrue (@Ev.run ⟨[], [], noSum⟩ Try.prog 100000 11 [.res .u8 8 5, .nils, .bool true]) = true := by decide +kernel
end Go.Proofs.Ytnoddedgkgkfhaa.serviceStops
