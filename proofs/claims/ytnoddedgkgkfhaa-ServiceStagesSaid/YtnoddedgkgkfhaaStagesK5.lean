/- Runs of the evaluator on single inputs: each ends with true. -/
import Derived.Test.YtnoddedgkgkfhaaProg
import Derived.Test.YtnoddedgkgkfhaaEv5
namespace Go.Proofs.Ytnoddedgkgkfhaa.serviceStages
open Go.Ev
theorem k2_8 : isTrue (Ev.run Try.prog 100000 5 [.res .u8 8 2, .res .u8 16 8]) = true := by decide +kernel
theorem k2_9 : isTrue (Ev.run Try.prog 100000 5 [.res .u8 8 2, .res .u8 16 9]) = true := by decide +kernel
theorem k2_10 : isTrue (Ev.run Try.prog 100000 5 [.res .u8 8 2, .res .u8 16 10]) = true := by decide +kernel
theorem k2_11 : isTrue (Ev.run Try.prog 100000 5 [.res .u8 8 2, .res .u8 16 11]) = true := by decide +kernel
theorem k2_12 : isTrue (Ev.run Try.prog 100000 5 [.res .u8 8 2, .res .u8 16 12]) = true := by decide +kernel
theorem k2_13 : isTrue (Ev.run Try.prog 100000 5 [.res .u8 8 2, .res .u8 16 13]) = true := by decide +kernel
theorem k2_14 : isTrue (Ev.run Try.prog 100000 5 [.res .u8 8 2, .res .u8 16 14]) = true := by decide +kernel
theorem k2_15 : isTrue (Ev.run Try.prog 100000 5 [.res .u8 8 2, .res .u8 16 15]) = true := by decide +kernel
end Go.Proofs.Ytnoddedgkgkfhaa.serviceStages
