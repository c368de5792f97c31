/- Runs of the evaluator: each ends with true. -/
import Derived.Test.YtfpfdeechhaheaaDoorProg
import Derived.Test.YtfpfdeechhaheaaDoorEv5
namespace Go.Proofs.YtfpfdeechhaheaaDoor.spanBounds
open Go.Ev
theorem k3_3 : isTrue (@Ev.run ⟨[], [], noSum⟩ Tryd.prog 100000 7 [.int .i64 0, .int .i64 0]) = true := by decide +kernel
theorem k3_4 : isTrue (@Ev.run ⟨[(1, 4611686018427387903)], [], noSum⟩ Tryd.prog 100000 7 [.int .i64 0, .sym .i64 0 [(0, 1)]]) = true := by decide +kernel
theorem k3_5 : isTrue (@Ev.run ⟨[(4611686018427387904, 9223372036854775806)], [], noSum⟩ Tryd.prog 100000 7 [.int .i64 0, .sym .i64 0 [(0, 1)]]) = true := by decide +kernel
theorem k3_6 : isTrue (@Ev.run ⟨[], [], noSum⟩ Tryd.prog 100000 7 [.int .i64 0, .int .i64 9223372036854775807]) = true := by decide +kernel
theorem k4_0 : isTrue (@Ev.run ⟨[(1, 4611686018427387903)], [], noSum⟩ Tryd.prog 100000 7 [.sym .i64 0 [(0, 1)], .int .i64 (-9223372036854775808)]) = true := by decide +kernel
theorem k4_1 : isTrue (@Ev.run ⟨[(1, 4611686018427387903), (-9223372036854775807, -4611686018427387905)], [], noSum⟩ Tryd.prog 100000 7 [.sym .i64 0 [(0, 1)], .sym .i64 0 [(1, 1)]]) = true := by decide +kernel
theorem k4_2 : isTrue (@Ev.run ⟨[(1, 4611686018427387903), (-4611686018427387904, -1)], [], noSum⟩ Tryd.prog 100000 7 [.sym .i64 0 [(0, 1)], .sym .i64 0 [(1, 1)]]) = true := by decide +kernel
theorem k4_3 : isTrue (@Ev.run ⟨[(1, 4611686018427387903)], [], noSum⟩ Tryd.prog 100000 7 [.sym .i64 0 [(0, 1)], .int .i64 0]) = true := by decide +kernel
theorem k4_4 : isTrue (@Ev.run ⟨[(1, 4611686018427387903), (1, 4611686018427387903)], [], noSum⟩ Tryd.prog 100000 7 [.sym .i64 0 [(0, 1)], .sym .i64 0 [(1, 1)]]) = true := by decide +kernel
theorem k4_5s0 : isTrue (@Ev.run ⟨[(1, 4611686018427387903), (4611686018427387904, 9223372036854775806)], [([(0, 1), (1, 1)], 4611686018427387905, 9223372036854775807)], noSum⟩ Tryd.prog 100000 7 [.sym .i64 0 [(0, 1)], .sym .i64 0 [(1, 1)]]) = true := by decide +kernel
theorem k4_5s1 : isTrue (@Ev.run ⟨[(1, 4611686018427387903), (4611686018427387904, 9223372036854775806)], [([(0, 1), (1, 1)], 9223372036854775808, 13835058055282163709)], noSum⟩ Tryd.prog 100000 7 [.sym .i64 0 [(0, 1)], .sym .i64 0 [(1, 1)]]) = true := by decide +kernel
theorem k4_6 : isTrue (@Ev.run ⟨[(1, 4611686018427387903)], [], noSum⟩ Tryd.prog 100000 7 [.sym .i64 0 [(0, 1)], .int .i64 9223372036854775807]) = true := by decide +kernel
theorem k5_0 : isTrue (@Ev.run ⟨[(4611686018427387904, 9223372036854775806)], [], noSum⟩ Tryd.prog 100000 7 [.sym .i64 0 [(0, 1)], .int .i64 (-9223372036854775808)]) = true := by decide +kernel
end Go.Proofs.YtfpfdeechhaheaaDoor.spanBounds
