/- Runs of the evaluator: each ends with true. -/
import Derived.Test.YtnoddedgkgkfhaaProg
import Derived.Test.YtnoddedgkgkfhaaEv5
namespace Go.Proofs.Ytnoddedgkgkfhaa.serviceStops
open Go.Ev
theorem k7_Lm6_f : isTrue (@Ev.run ⟨[(0, 6)], [], noSum⟩ Try.prog 100000 11 [.res .u8 8 7, .slx 0 0 0 0 [(0, 1)], .bool false]) = true := by decide +kernel
theorem k7_Lm6_t : isTrue (@Ev.run ⟨[(0, 6)], [], noSum⟩ Try.prog 100000 11 [.res .u8 8 7, .slx 0 0 0 0 [(0, 1)], .bool true]) = true := by decide +kernel
theorem k7_L7up_f : isTrue (@runR ⟨[(0, 255), (0, 255), (0, 255), (0, 255), (0, 255), (0, 255), (0, 255), (7, 9223372036854775807)], [], noSum⟩ Try.prog 100000 11 [.res .u8 8 7, .slx 0 0 7 0 [(7, 1)], .bool false] [(0, 7, [(.sym .u8 0 [(0, 1)]), (.sym .u8 0 [(1, 1)]), (.sym .u8 0 [(2, 1)]), (.sym .u8 0 [(3, 1)]), (.sym .u8 0 [(4, 1)]), (.sym .u8 0 [(5, 1)]), (.sym .u8 0 [(6, 1)])])] 1) = true := by decide +kernel
theorem k7_L7up_t : isTrue (@runR ⟨[(0, 255), (0, 255), (0, 255), (0, 255), (0, 255), (0, 255), (0, 255), (7, 9223372036854775807)], [], noSum⟩ Try.prog 100000 11 [.res .u8 8 7, .slx 0 0 7 0 [(7, 1)], .bool true] [(0, 7, [(.sym .u8 0 [(0, 1)]), (.sym .u8 0 [(1, 1)]), (.sym .u8 0 [(2, 1)]), (.sym .u8 0 [(3, 1)]), (.sym .u8 0 [(4, 1)]), (.sym .u8 0 [(5, 1)]), (.sym .u8 0 [(6, 1)])])] 1) = true := by decide +kernel
end Go.Proofs.Ytnoddedgkgkfhaa.serviceStops
