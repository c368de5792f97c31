/- Runs of the evaluator: a sum of two numbers that are not negative. -/
import Derived.Test.YtnoddedgkgkfhaaProg
import Derived.Test.YtnoddedgkgkfhaaEv5
namespace Go.Proofs.Ytnoddedgkgkfhaa.serviceWatches
open Go.Ev
theorem add00 : isSum .i64 0 [] (@Ev.run ⟨[], [], noSum⟩ Try.prog 100000 70 [.int .i64 0, .int .i64 0]) = true := by decide +kernel
theorem add01 : isSum .i64 0 [(0, 1)] (@Ev.run ⟨[(1, 1099511627776)], [], noSum⟩ Try.prog 100000 70 [.int .i64 0, .sym .i64 0 [(0, 1)]]) = true := by decide +kernel
theorem add10 : isSum .i64 0 [(0, 1)] (@Ev.run ⟨[(1, 1099511627776)], [], noSum⟩ Try.prog 100000 70 [.sym .i64 0 [(0, 1)], .int .i64 0]) = true := by decide +kernel
theorem add11 : isSum .i64 0 [(0, 1), (1, 1)] (@Ev.run ⟨[(1, 1099511627776), (1, 1099511627776)], [], noSum⟩ Try.prog 100000 70 [.sym .i64 0 [(0, 1)], .sym .i64 0 [(1, 1)]]) = true := by decide +kernel
end Go.Proofs.Ytnoddedgkgkfhaa.serviceWatches
