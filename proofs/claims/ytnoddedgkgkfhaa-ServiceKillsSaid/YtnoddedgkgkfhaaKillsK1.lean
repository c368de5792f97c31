/- Runs of the evaluator: each ends with true. -/
import Derived.Test.YtnoddedgkgkfhaaProg
import Derived.Test.YtnoddedgkgkfhaaEv5
namespace Go.Proofs.Ytnoddedgkgkfhaa.serviceKills
open Go.Ev
theorem k1_1 : isTrue (@Ev.run ⟨[(1, 65535)], []⟩ Try.prog 100000 7 [.res .u8 3 1, .sym .u16 0 [(0, 1)]]) = true := by decide +kernel
theorem k2_0 : isTrue (@Ev.run ⟨[], []⟩ Try.prog 100000 7 [.res .u8 3 2, .int .u16 0]) = true := by decide +kernel
theorem k2_1 : isTrue (@Ev.run ⟨[(1, 65535)], []⟩ Try.prog 100000 7 [.res .u8 3 2, .sym .u16 0 [(0, 1)]]) = true := by decide +kernel
end Go.Proofs.Ytnoddedgkgkfhaa.serviceKills
