/- Runs of the evaluator: each ends with true. -/
import Derived.Test.YtfpfdeechhaheaaDoorProg
import Derived.Test.YtfpfdeechhaheaaDoorEv5
namespace Go.Proofs.YtfpfdeechhaheaaDoor.spanBounds
open Go.Ev
theorem k6_6 : isTrue (@Ev.run ⟨[], [], noSum⟩ Tryd.prog 100000 7 [.int .i64 9223372036854775807, .int .i64 9223372036854775807]) = true := by decide +kernel
end Go.Proofs.YtfpfdeechhaheaaDoor.spanBounds
