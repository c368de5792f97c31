/- Runs of the evaluator: each ends with true. -/
import Derived.Test.YtnoddedgkgkfhaaProg
import Derived.Test.YtnoddedgkgkfhaaEv5
namespace Go.Proofs.Ytnoddedgkgkfhaa.serviceOneshots
open Go.Ev
theorem k0_f_0 : isTrue (@Ev.run ⟨[], []⟩ Try.prog 100000 10 [.res .u8 8 0, .bool false, .res .u8 16 0]) = true := by decide +kernel
theorem k0_f_1 : isTrue (@Ev.run ⟨[], []⟩ Try.prog 100000 10 [.res .u8 8 0, .bool false, .res .u8 16 1]) = true := by decide +kernel
theorem k0_f_2 : isTrue (@Ev.run ⟨[], []⟩ Try.prog 100000 10 [.res .u8 8 0, .bool false, .res .u8 16 2]) = true := by decide +kernel
theorem k0_f_3 : isTrue (@Ev.run ⟨[], []⟩ Try.prog 100000 10 [.res .u8 8 0, .bool false, .res .u8 16 3]) = true := by decide +kernel
theorem k0_f_4 : isTrue (@Ev.run ⟨[], []⟩ Try.prog 100000 10 [.res .u8 8 0, .bool false, .res .u8 16 4]) = true := by decide +kernel
theorem k0_f_5 : isTrue (@Ev.run ⟨[], []⟩ Try.prog 100000 10 [.res .u8 8 0, .bool false, .res .u8 16 5]) = true := by decide +kernel
theorem k0_f_6 : isTrue (@Ev.run ⟨[], []⟩ Try.prog 100000 10 [.res .u8 8 0, .bool false, .res .u8 16 6]) = true := by decide +kernel
theorem k0_f_7 : isTrue (@Ev.run ⟨[], []⟩ Try.prog 100000 10 [.res .u8 8 0, .bool false, .res .u8 16 7]) = true := by decide +kernel
theorem k0_f_8 : isTrue (@Ev.run ⟨[(8, 15), (0, 15)], []⟩ Try.prog 100000 10 [.res .u8 8 0, .bool false, .sym .u8 0 [(0, 1), (1, 16)]]) = true := by decide +kernel
theorem k0_t_0 : isTrue (@Ev.run ⟨[], []⟩ Try.prog 100000 10 [.res .u8 8 0, .bool true, .res .u8 16 0]) = true := by decide +kernel
theorem k0_t_1 : isTrue (@Ev.run ⟨[], []⟩ Try.prog 100000 10 [.res .u8 8 0, .bool true, .res .u8 16 1]) = true := by decide +kernel
theorem k0_t_2 : isTrue (@Ev.run ⟨[], []⟩ Try.prog 100000 10 [.res .u8 8 0, .bool true, .res .u8 16 2]) = true := by decide +kernel
end Go.Proofs.Ytnoddedgkgkfhaa.serviceOneshots
