/- Runs of the evaluator: each ends with true. -/
import Derived.Test.YtnoddedgkgkfhaaProg
import Derived.Test.YtnoddedgkgkfhaaEv5
namespace Go.Proofs.Ytnoddedgkgkfhaa.serviceModes
open Go.Ev
theorem k0_0 : isTrue (@Ev.run ⟨[(0, 255)], []⟩ Try.prog 100000 12 [.res .u8 3 0, .sym .u8 0 [(0, 1)]]) = true := by decide +kernel
theorem k1_0 : isTrue (@Ev.run ⟨[(0, 255)], []⟩ Try.prog 100000 12 [.res .u8 3 1, .sym .u8 0 [(0, 1)]]) = true := by decide +kernel
theorem k2_0 : isTrue (@Ev.run ⟨[(0, 255)], []⟩ Try.prog 100000 12 [.res .u8 3 2, .sym .u8 0 [(0, 1)]]) = true := by decide +kernel
end Go.Proofs.Ytnoddedgkgkfhaa.serviceModes
