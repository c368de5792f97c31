/- Runs of the evaluator: each ends with true. -/
import Derived.Test.YtnoddedgkgkfhaaProg
import Derived.Test.YtnoddedgkgkfhaaEv5
namespace Go.Proofs.Ytnoddedgkgkfhaa.serviceWatches
open Go.Ev
theorem k0_L2_f : isTrue (@runR ⟨[(0, 255), (0, 255), (0, 255)], [], (addOf 70 [(0, 255), (0, 255), (0, 255)] [])⟩ Try.prog 100000 9 [.sym .u8 0 [(0, 1)], .slx 0 0 2 2 [], .bool false] [(0, 2, [(.sym .u8 0 [(1, 1)]), (.sym .u8 0 [(2, 1)])])] 1) = true := by decide +kernel
theorem k0_L2_t : isTrue (@runR ⟨[(0, 255), (0, 255), (0, 255)], [], (addOf 70 [(0, 255), (0, 255), (0, 255)] [])⟩ Try.prog 100000 9 [.sym .u8 0 [(0, 1)], .slx 0 0 2 2 [], .bool true] [(0, 2, [(.sym .u8 0 [(1, 1)]), (.sym .u8 0 [(2, 1)])])] 1) = true := by decide +kernel
theorem k0_L3_f : isTrue (@runR ⟨[(0, 255), (0, 255), (0, 255), (0, 255)], [], (addOf 70 [(0, 255), (0, 255), (0, 255), (0, 255)] [])⟩ Try.prog 100000 9 [.sym .u8 0 [(0, 1)], .slx 0 0 3 3 [], .bool false] [(0, 3, [(.sym .u8 0 [(1, 1)]), (.sym .u8 0 [(2, 1)]), (.sym .u8 0 [(3, 1)])])] 1) = true := by decide +kernel
theorem k0_L3_t : isTrue (@runR ⟨[(0, 255), (0, 255), (0, 255), (0, 255)], [], (addOf 70 [(0, 255), (0, 255), (0, 255), (0, 255)] [])⟩ Try.prog 100000 9 [.sym .u8 0 [(0, 1)], .slx 0 0 3 3 [], .bool true] [(0, 3, [(.sym .u8 0 [(1, 1)]), (.sym .u8 0 [(2, 1)]), (.sym .u8 0 [(3, 1)])])] 1) = true := by decide +kernel
theorem k0_L4_f : isTrue (@runR ⟨[(0, 255), (0, 255), (0, 255), (0, 255), (0, 255)], [], (addOf 70 [(0, 255), (0, 255), (0, 255), (0, 255), (0, 255)] [])⟩ Try.prog 100000 9 [.sym .u8 0 [(0, 1)], .slx 0 0 4 4 [], .bool false] [(0, 4, [(.sym .u8 0 [(1, 1)]), (.sym .u8 0 [(2, 1)]), (.sym .u8 0 [(3, 1)]), (.sym .u8 0 [(4, 1)])])] 1) = true := by decide +kernel
theorem k0_L4_t : isTrue (@runR ⟨[(0, 255), (0, 255), (0, 255), (0, 255), (0, 255)], [], (addOf 70 [(0, 255), (0, 255), (0, 255), (0, 255), (0, 255)] [])⟩ Try.prog 100000 9 [.sym .u8 0 [(0, 1)], .slx 0 0 4 4 [], .bool true] [(0, 4, [(.sym .u8 0 [(1, 1)]), (.sym .u8 0 [(2, 1)]), (.sym .u8 0 [(3, 1)]), (.sym .u8 0 [(4, 1)])])] 1) = true := by decide +kernel
end Go.Proofs.Ytnoddedgkgkfhaa.serviceWatches
