/- A run of the evaluator: it ends with true. -/
import Derived.Test.YtgeckhdcjldgkaaGreatDoorProg
import Derived.Test.YtgeckhdcjldgkaaGreatDoorEvZ
namespace Go.Proofs.YtgeckhdcjldgkaaGreatDoor.calendarWords
open Go.Ev
theorem k5_0 : isTrue (@runR ⟨[(-9223372036854775808, 9223372036854775807)], [], noSum⟩ Tryz.prog 100000 12 [.res .u8 6 5] (twoRows .i64 [(5, 0, 6), (0, 1970, 2200), (1, 1, 12), (2, 1, 31), (3, 0, 23), (4, 0, 59)] ++ [(6, 1, [.sym .i64 0 [(0, 1)]])]) 0) = true := by decide +kernel
end Go.Proofs.YtgeckhdcjldgkaaGreatDoor.calendarWords
