/- Runs of the evaluator: each ends with true. -/
import Derived.Test.YtfpfdeechhaheaaDoorProg
import Derived.Test.YtfpfdeechhaheaaDoorEv5
namespace Go.Proofs.YtfpfdeechhaheaaDoor.spanBounds
open Go.Ev
theorem k0_0 : isTrue (@Ev.run ⟨[(-9223372036854775808, -4611686018427387905)], [], noSum⟩ Tryd.prog 100000 7 [.sym .i64 0 [(0, 1)], .int .i64 (-9223372036854775808)]) = true := by decide +kernel
theorem k0_1 : isTrue (@Ev.run ⟨[(-9223372036854775808, -4611686018427387905), (-9223372036854775807, -4611686018427387905)], [], noSum⟩ Tryd.prog 100000 7 [.sym .i64 0 [(0, 1)], .sym .i64 0 [(1, 1)]]) = true := by decide +kernel
theorem k0_2s0 : isTrue (@Ev.run ⟨[(-9223372036854775808, -4611686018427387905), (-4611686018427387904, -1)], [([(0, 1), (1, 1)], -13835058055282163712, -9223372036854775809)], noSum⟩ Tryd.prog 100000 7 [.sym .i64 0 [(0, 1)], .sym .i64 0 [(1, 1)]]) = true := by decide +kernel
theorem k0_2s1 : isTrue (@Ev.run ⟨[(-9223372036854775808, -4611686018427387905), (-4611686018427387904, -1)], [([(0, 1), (1, 1)], -9223372036854775808, -4611686018427387906)], noSum⟩ Tryd.prog 100000 7 [.sym .i64 0 [(0, 1)], .sym .i64 0 [(1, 1)]]) = true := by decide +kernel
theorem k0_3 : isTrue (@Ev.run ⟨[(-9223372036854775808, -4611686018427387905)], [], noSum⟩ Tryd.prog 100000 7 [.sym .i64 0 [(0, 1)], .int .i64 0]) = true := by decide +kernel
theorem k0_4 : isTrue (@Ev.run ⟨[(-9223372036854775808, -4611686018427387905), (1, 4611686018427387903)], [], noSum⟩ Tryd.prog 100000 7 [.sym .i64 0 [(0, 1)], .sym .i64 0 [(1, 1)]]) = true := by decide +kernel
theorem k0_5 : isTrue (@Ev.run ⟨[(-9223372036854775808, -4611686018427387905), (4611686018427387904, 9223372036854775806)], [], noSum⟩ Tryd.prog 100000 7 [.sym .i64 0 [(0, 1)], .sym .i64 0 [(1, 1)]]) = true := by decide +kernel
theorem k0_6 : isTrue (@Ev.run ⟨[(-9223372036854775808, -4611686018427387905)], [], noSum⟩ Tryd.prog 100000 7 [.sym .i64 0 [(0, 1)], .int .i64 9223372036854775807]) = true := by decide +kernel
theorem k1_0 : isTrue (@Ev.run ⟨[(-4611686018427387904, -2)], [], noSum⟩ Tryd.prog 100000 7 [.sym .i64 0 [(0, 1)], .int .i64 (-9223372036854775808)]) = true := by decide +kernel
theorem k1_1s0 : isTrue (@Ev.run ⟨[(-4611686018427387904, -2), (-9223372036854775807, -4611686018427387905)], [([(0, 1), (1, 1)], -13835058055282163711, -9223372036854775809)], noSum⟩ Tryd.prog 100000 7 [.sym .i64 0 [(0, 1)], .sym .i64 0 [(1, 1)]]) = true := by decide +kernel
theorem k1_1s1 : isTrue (@Ev.run ⟨[(-4611686018427387904, -2), (-9223372036854775807, -4611686018427387905)], [([(0, 1), (1, 1)], -9223372036854775808, -4611686018427387907)], noSum⟩ Tryd.prog 100000 7 [.sym .i64 0 [(0, 1)], .sym .i64 0 [(1, 1)]]) = true := by decide +kernel
theorem k1_2 : isTrue (@Ev.run ⟨[(-4611686018427387904, -2), (-4611686018427387904, -1)], [], noSum⟩ Tryd.prog 100000 7 [.sym .i64 0 [(0, 1)], .sym .i64 0 [(1, 1)]]) = true := by decide +kernel
theorem k1_3 : isTrue (@Ev.run ⟨[(-4611686018427387904, -2)], [], noSum⟩ Tryd.prog 100000 7 [.sym .i64 0 [(0, 1)], .int .i64 0]) = true := by decide +kernel
theorem k1_4 : isTrue (@Ev.run ⟨[(-4611686018427387904, -2), (1, 4611686018427387903)], [], noSum⟩ Tryd.prog 100000 7 [.sym .i64 0 [(0, 1)], .sym .i64 0 [(1, 1)]]) = true := by decide +kernel
end Go.Proofs.YtfpfdeechhaheaaDoor.spanBounds
