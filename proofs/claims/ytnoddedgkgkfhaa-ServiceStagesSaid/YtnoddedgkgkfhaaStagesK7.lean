/- Runs of the evaluator on single inputs: each ends with true. -/
import Derived.Test.YtnoddedgkgkfhaaProg
import Derived.Test.YtnoddedgkgkfhaaEv5
namespace Go.Proofs.Ytnoddedgkgkfhaa.serviceStages
open Go.Ev
theorem k3_8 : isTrue (Ev.run Try.prog 100000 5 [.res .u8 8 3, .res .u8 16 8]) = true := by decide +kernel
theorem k3_9 : isTrue (Ev.run Try.prog 100000 5 [.res .u8 8 3, .res .u8 16 9]) = true := by decide +kernel
theorem k3_10 : isTrue (Ev.run Try.prog 100000 5 [.res .u8 8 3, .res .u8 16 10]) = true := by decide +kernel
theorem k3_11 : isTrue (Ev.run Try.prog 100000 5 [.res .u8 8 3, .res .u8 16 11]) = true := by decide +kernel
theorem k3_12 : isTrue (Ev.run Try.prog 100000 5 [.res .u8 8 3, .res .u8 16 12]) = true := by decide +kernel
theorem k3_13 : isTrue (Ev.run Try.prog 100000 5 [.res .u8 8 3, .res .u8 16 13]) = true := by decide +kernel
theorem k3_14 : isTrue (Ev.run Try.prog 100000 5 [.res .u8 8 3, .res .u8 16 14]) = true := by decide +kernel
theorem k3_15 : isTrue (Ev.run Try.prog 100000 5 [.res .u8 8 3, .res .u8 16 15]) = true := by decide +kernel
end Go.Proofs.Ytnoddedgkgkfhaa.serviceStages
