/- Runs of the evaluator: each ends with true. -/
import Derived.Test.YtpbaeipofjdapaaGreatDoorRProg
import Derived.Test.YtpbaeipofjdapaaGreatDoorREvZ
namespace Go.Proofs.YtpbaeipofjdapaaGreatDoorR.settingNeeds
open Go.Ev
theorem k2_f_1 : isTrue (@runR ⟨[(7, 8)], [], noSum⟩ Tryz.prog 100000 5 [.res .u8 6 2, .bool false] (twoRows .i64 [(6, 0, 6), (0, 1970, 2200), (1, 1, 12), (2, 1, 31), (3, 0, 23), (4, 0, 59)] ++ [(5, 1, [.sym .i64 0 [(0, 1)]])]) 0) = true := by decide +kernel
theorem k2_f_2 : isTrue (@runR ⟨[(9, 10)], [], noSum⟩ Tryz.prog 100000 5 [.res .u8 6 2, .bool false] (twoRows .i64 [(6, 0, 6), (0, 1970, 2200), (1, 1, 12), (2, 1, 31), (3, 0, 23), (4, 0, 59)] ++ [(5, 1, [.sym .i64 0 [(0, 1)]])]) 0) = true := by decide +kernel
theorem k2_f_3 : isTrue (@runR ⟨[(11, 9223372036854775807)], [], noSum⟩ Tryz.prog 100000 5 [.res .u8 6 2, .bool false] (twoRows .i64 [(6, 0, 6), (0, 1970, 2200), (1, 1, 12), (2, 1, 31), (3, 0, 23), (4, 0, 59)] ++ [(5, 1, [.sym .i64 0 [(0, 1)]])]) 0) = true := by decide +kernel
end Go.Proofs.YtpbaeipofjdapaaGreatDoorR.settingNeeds
