/- Runs of the evaluator: each ends with true. -/
import Derived.Test.YtnoddedgkgkfhaaProg
import Derived.Test.YtnoddedgkgkfhaaEv5
namespace Go.Proofs.Ytnoddedgkgkfhaa.serviceWatches
open Go.Ev
theorem k0_Lnil_f : isTrue (@Ev.run ⟨[(0, 255)], [], (addOf 70 [(0, 255)] [])⟩ Try.prog 100000 9 [.sym .u8 0 [(0, 1)], .nils, .bool false]) = true := by decide +kernel
theorem k0_Lnil_t : isTrue (@Ev.run ⟨[(0, 255)], [], (addOf 70 [(0, 255)] [])⟩ Try.prog 100000 9 [.sym .u8 0 [(0, 1)], .nils, .bool true]) = true := by decide +kernel
theorem k0_L0_f : isTrue (@Ev.run ⟨[(0, 255)], [], (addOf 70 [(0, 255)] [])⟩ Try.prog 100000 9 [.sym .u8 0 [(0, 1)], .slx 0 0 0 0 [], .bool false]) = true := by decide +kernel
theorem k0_L0_t : isTrue (@Ev.run ⟨[(0, 255)], [], (addOf 70 [(0, 255)] [])⟩ Try.prog 100000 9 [.sym .u8 0 [(0, 1)], .slx 0 0 0 0 [], .bool true]) = true := by decide +kernel
theorem k0_L1_f : isTrue (@runR ⟨[(0, 255), (0, 255)], [], (addOf 70 [(0, 255), (0, 255)] [])⟩ Try.prog 100000 9 [.sym .u8 0 [(0, 1)], .slx 0 0 1 1 [], .bool false] [(0, 1, [(.sym .u8 0 [(1, 1)])])] 1) = true := by decide +kernel
theorem k0_L1_t : isTrue (@runR ⟨[(0, 255), (0, 255)], [], (addOf 70 [(0, 255), (0, 255)] [])⟩ Try.prog 100000 9 [.sym .u8 0 [(0, 1)], .slx 0 0 1 1 [], .bool true] [(0, 1, [(.sym .u8 0 [(1, 1)])])] 1) = true := by decide +kernel
end Go.Proofs.Ytnoddedgkgkfhaa.serviceWatches
