/- Runs of the evaluator: each ends with true. -/
import Derived.Test.YtnoddedgkgkfhaaProg
import Derived.Test.YtnoddedgkgkfhaaEv5
namespace Go.Proofs.Ytnoddedgkgkfhaa.serviceStops
open Go.Ev
theorem k6_Lm5_f : isTrue (@Ev.run ⟨[(0, 5)], [], noSum⟩ Try.prog 100000 11 [.res .u8 8 6, .slx 0 0 0 0 [(0, 1)], .bool false]) = true := by decide +kernel
theorem k6_Lm5_t : isTrue (@Ev.run ⟨[(0, 5)], [], noSum⟩ Try.prog 100000 11 [.res .u8 8 6, .slx 0 0 0 0 [(0, 1)], .bool true]) = true := by decide +kernel
theorem k6_L6up_f : isTrue (@runR ⟨[(0, 255), (0, 255), (0, 255), (0, 255), (0, 255), (0, 255), (6, 9223372036854775807)], [], noSum⟩ Try.prog 100000 11 [.res .u8 8 6, .slx 0 0 6 0 [(6, 1)], .bool false] [(0, 6, [(.sym .u8 0 [(0, 1)]), (.sym .u8 0 [(1, 1)]), (.sym .u8 0 [(2, 1)]), (.sym .u8 0 [(3, 1)]), (.sym .u8 0 [(4, 1)]), (.sym .u8 0 [(5, 1)])])] 1) = true := by decide +kernel
theorem k6_L6up_t : isTrue (@runR ⟨[(0, 255), (0, 255), (0, 255), (0, 255), (0, 255), (0, 255), (6, 9223372036854775807)], [], noSum⟩ Try.prog 100000 11 [.res .u8 8 6, .slx 0 0 6 0 [(6, 1)], .bool true] [(0, 6, [(.sym .u8 0 [(0, 1)]), (.sym .u8 0 [(1, 1)]), (.sym .u8 0 [(2, 1)]), (.sym .u8 0 [(3, 1)]), (.sym .u8 0 [(4, 1)]), (.sym .u8 0 [(5, 1)])])] 1) = true := by decide +kernel
theorem k7_Lnil_f : isTrue (@Ev.run ⟨[], [], noSum⟩ Try.prog 100000 11 [.res .u8 8 7, .nils, .bool false]) = true := by decide +kernel
theorem k7_Lnil_t : isTrue (@Ev.run ⟨[], [], noSum⟩ Try.prog 100000 11 [.res .u8 8 7, .nils, .bool true]) = true := by decide +kernel
end Go.Proofs.Ytnoddedgkgkfhaa.serviceStops
