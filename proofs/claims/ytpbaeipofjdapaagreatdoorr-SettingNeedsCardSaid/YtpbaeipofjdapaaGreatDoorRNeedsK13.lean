/- Runs of the evaluator: each ends with true. -/
import Derived.Test.YtpbaeipofjdapaaGreatDoorRProg
import Derived.Test.YtpbaeipofjdapaaGreatDoorREvZ
namespace Go.Proofs.YtpbaeipofjdapaaGreatDoorR.settingNeeds
open Go.Ev
theorem k4_t_0 : isTrue (@runR ⟨[(-9223372036854775808, 5)], [], noSum⟩ Tryz.prog 100000 5 [.res .u8 6 4, .bool true] (twoRows .i64 [(6, 0, 6), (0, 1970, 2200), (1, 1, 12), (2, 1, 31), (3, 0, 23), (4, 0, 59)] ++ [(5, 1, [.sym .i64 0 [(0, 1)]])]) 0) = true := by decide +kernel
theorem k4_t_1 : isTrue (@runR ⟨[(6, 6)], [], noSum⟩ Tryz.prog 100000 5 [.res .u8 6 4, .bool true] (twoRows .i64 [(6, 0, 6), (0, 1970, 2200), (1, 1, 12), (2, 1, 31), (3, 0, 23), (4, 0, 59)] ++ [(5, 1, [.sym .i64 0 [(0, 1)]])]) 0) = true := by decide +kernel
theorem k4_t_2 : isTrue (@runR ⟨[(7, 8)], [], noSum⟩ Tryz.prog 100000 5 [.res .u8 6 4, .bool true] (twoRows .i64 [(6, 0, 6), (0, 1970, 2200), (1, 1, 12), (2, 1, 31), (3, 0, 23), (4, 0, 59)] ++ [(5, 1, [.sym .i64 0 [(0, 1)]])]) 0) = true := by decide +kernel
end Go.Proofs.YtpbaeipofjdapaaGreatDoorR.settingNeeds
