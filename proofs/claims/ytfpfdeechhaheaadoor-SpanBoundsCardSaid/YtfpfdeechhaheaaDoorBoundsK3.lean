/- Runs of the evaluator: each ends with true. -/
import Derived.Test.YtfpfdeechhaheaaDoorProg
import Derived.Test.YtfpfdeechhaheaaDoorEv5
namespace Go.Proofs.YtfpfdeechhaheaaDoor.spanBounds
open Go.Ev
theorem k5_1 : isTrue (@Ev.run ⟨[(4611686018427387904, 9223372036854775806), (-9223372036854775807, -4611686018427387905)], [], noSum⟩ Tryd.prog 100000 7 [.sym .i64 0 [(0, 1)], .sym .i64 0 [(1, 1)]]) = true := by decide +kernel
theorem k5_2 : isTrue (@Ev.run ⟨[(4611686018427387904, 9223372036854775806), (-4611686018427387904, -1)], [], noSum⟩ Tryd.prog 100000 7 [.sym .i64 0 [(0, 1)], .sym .i64 0 [(1, 1)]]) = true := by decide +kernel
theorem k5_3 : isTrue (@Ev.run ⟨[(4611686018427387904, 9223372036854775806)], [], noSum⟩ Tryd.prog 100000 7 [.sym .i64 0 [(0, 1)], .int .i64 0]) = true := by decide +kernel
theorem k5_4s0 : isTrue (@Ev.run ⟨[(4611686018427387904, 9223372036854775806), (1, 4611686018427387903)], [([(0, 1), (1, 1)], 4611686018427387905, 9223372036854775807)], noSum⟩ Tryd.prog 100000 7 [.sym .i64 0 [(0, 1)], .sym .i64 0 [(1, 1)]]) = true := by decide +kernel
theorem k5_4s1 : isTrue (@Ev.run ⟨[(4611686018427387904, 9223372036854775806), (1, 4611686018427387903)], [([(0, 1), (1, 1)], 9223372036854775808, 13835058055282163709)], noSum⟩ Tryd.prog 100000 7 [.sym .i64 0 [(0, 1)], .sym .i64 0 [(1, 1)]]) = true := by decide +kernel
theorem k5_5 : isTrue (@Ev.run ⟨[(4611686018427387904, 9223372036854775806), (4611686018427387904, 9223372036854775806)], [], noSum⟩ Tryd.prog 100000 7 [.sym .i64 0 [(0, 1)], .sym .i64 0 [(1, 1)]]) = true := by decide +kernel
theorem k5_6 : isTrue (@Ev.run ⟨[(4611686018427387904, 9223372036854775806)], [], noSum⟩ Tryd.prog 100000 7 [.sym .i64 0 [(0, 1)], .int .i64 9223372036854775807]) = true := by decide +kernel
theorem k6_0 : isTrue (@Ev.run ⟨[], [], noSum⟩ Tryd.prog 100000 7 [.int .i64 9223372036854775807, .int .i64 (-9223372036854775808)]) = true := by decide +kernel
theorem k6_1 : isTrue (@Ev.run ⟨[(-9223372036854775807, -4611686018427387905)], [], noSum⟩ Tryd.prog 100000 7 [.int .i64 9223372036854775807, .sym .i64 0 [(0, 1)]]) = true := by decide +kernel
theorem k6_2 : isTrue (@Ev.run ⟨[(-4611686018427387904, -1)], [], noSum⟩ Tryd.prog 100000 7 [.int .i64 9223372036854775807, .sym .i64 0 [(0, 1)]]) = true := by decide +kernel
theorem k6_3 : isTrue (@Ev.run ⟨[], [], noSum⟩ Tryd.prog 100000 7 [.int .i64 9223372036854775807, .int .i64 0]) = true := by decide +kernel
theorem k6_4 : isTrue (@Ev.run ⟨[(1, 4611686018427387903)], [], noSum⟩ Tryd.prog 100000 7 [.int .i64 9223372036854775807, .sym .i64 0 [(0, 1)]]) = true := by decide +kernel
theorem k6_5 : isTrue (@Ev.run ⟨[(4611686018427387904, 9223372036854775806)], [], noSum⟩ Tryd.prog 100000 7 [.int .i64 9223372036854775807, .sym .i64 0 [(0, 1)]]) = true := by decide +kernel
end Go.Proofs.YtfpfdeechhaheaaDoor.spanBounds
