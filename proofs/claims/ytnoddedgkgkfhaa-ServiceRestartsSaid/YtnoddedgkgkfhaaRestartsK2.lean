/- Runs of the evaluator: each ends with true. -/
import Derived.Test.YtnoddedgkgkfhaaProg
import Derived.Test.YtnoddedgkgkfhaaEv5
namespace Go.Proofs.Ytnoddedgkgkfhaa.serviceRestarts
open Go.Ev
theorem k1_t_f_0 : isTrue (@Ev.run ⟨[], []⟩ Try.prog 100000 8 [.res .u8 3 1, .bool true, .bool false, .int .u16 0]) = true := by decide +kernel
theorem k1_t_f_1 : isTrue (@Ev.run ⟨[(1, 3)], []⟩ Try.prog 100000 8 [.res .u8 3 1, .bool true, .bool false, .sym .u16 0 [(0, 1)]]) = true := by decide +kernel
theorem k1_t_f_2 : isTrue (@Ev.run ⟨[(4, 65535)], []⟩ Try.prog 100000 8 [.res .u8 3 1, .bool true, .bool false, .sym .u16 0 [(0, 1)]]) = true := by decide +kernel
theorem k1_t_t_0 : isTrue (@Ev.run ⟨[], []⟩ Try.prog 100000 8 [.res .u8 3 1, .bool true, .bool true, .int .u16 0]) = true := by decide +kernel
theorem k1_t_t_1 : isTrue (@Ev.run ⟨[(1, 3)], []⟩ Try.prog 100000 8 [.res .u8 3 1, .bool true, .bool true, .sym .u16 0 [(0, 1)]]) = true := by decide +kernel
theorem k1_t_t_2 : isTrue (@Ev.run ⟨[(4, 65535)], []⟩ Try.prog 100000 8 [.res .u8 3 1, .bool true, .bool true, .sym .u16 0 [(0, 1)]]) = true := by decide +kernel
theorem k2_f_f_0 : isTrue (@Ev.run ⟨[], []⟩ Try.prog 100000 8 [.res .u8 3 2, .bool false, .bool false, .int .u16 0]) = true := by decide +kernel
theorem k2_f_f_1 : isTrue (@Ev.run ⟨[(1, 3)], []⟩ Try.prog 100000 8 [.res .u8 3 2, .bool false, .bool false, .sym .u16 0 [(0, 1)]]) = true := by decide +kernel
theorem k2_f_f_2 : isTrue (@Ev.run ⟨[(4, 65535)], []⟩ Try.prog 100000 8 [.res .u8 3 2, .bool false, .bool false, .sym .u16 0 [(0, 1)]]) = true := by decide +kernel
end Go.Proofs.Ytnoddedgkgkfhaa.serviceRestarts
