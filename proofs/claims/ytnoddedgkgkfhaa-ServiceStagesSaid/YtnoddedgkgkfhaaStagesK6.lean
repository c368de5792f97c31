/- Runs of the evaluator on single inputs: each ends with true. -/
import Derived.Test.YtnoddedgkgkfhaaProg
import Derived.Test.YtnoddedgkgkfhaaEv5
namespace Go.Proofs.Ytnoddedgkgkfhaa.serviceStages
open Go.Ev
theorem k3_0 : isTrue (Ev.run Try.prog 100000 5 [.res .u8 8 3, .res .u8 16 0]) = true := by decide +kernel
theorem k3_1 : isTrue (Ev.run Try.prog 100000 5 [.res .u8 8 3, .res .u8 16 1]) = true := by decide +kernel
theorem k3_2 : isTrue (Ev.run Try.prog 100000 5 [.res .u8 8 3, .res .u8 16 2]) = true := by decide +kernel
theorem k3_3 : isTrue (Ev.run Try.prog 100000 5 [.res .u8 8 3, .res .u8 16 3]) = true := by decide +kernel
theorem k3_4 : isTrue (Ev.run Try.prog 100000 5 [.res .u8 8 3, .res .u8 16 4]) = true := by decide +kernel
theorem k3_5 : isTrue (Ev.run Try.prog 100000 5 [.res .u8 8 3, .res .u8 16 5]) = true := by decide +kernel
theorem k3_6 : isTrue (Ev.run Try.prog 100000 5 [.res .u8 8 3, .res .u8 16 6]) = true := by decide +kernel
theorem k3_7 : isTrue (Ev.run Try.prog 100000 5 [.res .u8 8 3, .res .u8 16 7]) = true := by decide +kernel
end Go.Proofs.Ytnoddedgkgkfhaa.serviceStages
