/- Runs of the evaluator: each ends with true. -/
import Derived.Test.YtfpfdeechhaheaaDoorProg
import Derived.Test.YtfpfdeechhaheaaDoorEv5
namespace Go.Proofs.YtfpfdeechhaheaaDoor.spanBounds
open Go.Ev
theorem k1_5 : isTrue (@Ev.run ⟨[(-4611686018427387904, -2), (4611686018427387904, 9223372036854775806)], [], noSum⟩ Tryd.prog 100000 7 [.sym .i64 0 [(0, 1)], .sym .i64 0 [(1, 1)]]) = true := by decide +kernel
theorem k1_6 : isTrue (@Ev.run ⟨[(-4611686018427387904, -2)], [], noSum⟩ Tryd.prog 100000 7 [.sym .i64 0 [(0, 1)], .int .i64 9223372036854775807]) = true := by decide +kernel
theorem k2_0 : isTrue (@Ev.run ⟨[], [], noSum⟩ Tryd.prog 100000 7 [.int .i64 (-1), .int .i64 (-9223372036854775808)]) = true := by decide +kernel
theorem k2_1 : isTrue (@Ev.run ⟨[(-9223372036854775807, -4611686018427387905)], [], noSum⟩ Tryd.prog 100000 7 [.int .i64 (-1), .sym .i64 0 [(0, 1)]]) = true := by decide +kernel
theorem k2_2 : isTrue (@Ev.run ⟨[(-4611686018427387904, -1)], [], noSum⟩ Tryd.prog 100000 7 [.int .i64 (-1), .sym .i64 0 [(0, 1)]]) = true := by decide +kernel
theorem k2_3 : isTrue (@Ev.run ⟨[], [], noSum⟩ Tryd.prog 100000 7 [.int .i64 (-1), .int .i64 0]) = true := by decide +kernel
theorem k2_4 : isTrue (@Ev.run ⟨[(1, 4611686018427387903)], [], noSum⟩ Tryd.prog 100000 7 [.int .i64 (-1), .sym .i64 0 [(0, 1)]]) = true := by decide +kernel
theorem k2_5 : isTrue (@Ev.run ⟨[(4611686018427387904, 9223372036854775806)], [], noSum⟩ Tryd.prog 100000 7 [.int .i64 (-1), .sym .i64 0 [(0, 1)]]) = true := by decide +kernel
theorem k2_6 : isTrue (@Ev.run ⟨[], [], noSum⟩ Tryd.prog 100000 7 [.int .i64 (-1), .int .i64 9223372036854775807]) = true := by decide +kernel
theorem k3_0 : isTrue (@Ev.run ⟨[], [], noSum⟩ Tryd.prog 100000 7 [.int .i64 0, .int .i64 (-9223372036854775808)]) = true := by decide +kernel
theorem k3_1 : isTrue (@Ev.run ⟨[(-9223372036854775807, -4611686018427387905)], [], noSum⟩ Tryd.prog 100000 7 [.int .i64 0, .sym .i64 0 [(0, 1)]]) = true := by decide +kernel
theorem k3_2 : isTrue (@Ev.run ⟨[(-4611686018427387904, -1)], [], noSum⟩ Tryd.prog 100000 7 [.int .i64 0, .sym .i64 0 [(0, 1)]]) = true := by decide +kernel
end Go.Proofs.YtfpfdeechhaheaaDoor.spanBounds
