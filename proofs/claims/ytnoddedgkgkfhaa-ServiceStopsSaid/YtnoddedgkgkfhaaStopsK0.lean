/- Runs of the evaluator: each ends with true. -/
import Derived.Test.YtnoddedgkgkfhaaProg
import Derived.Test.YtnoddedgkgkfhaaEv5
namespace Go.Proofs.Ytnoddedgkgkfhaa.serviceStops
open Go.Ev
theorem k0_Lnil_f : isTrue (@Ev.run ⟨[], [], noSum⟩ Try.prog 100000 11 [.res .u8 8 0, .nils, .bool false]) = true := by decide +kernel
theorem k0_Lnil_t : isTrue (@Ev.run ⟨[], [], noSum⟩ Try.prog 100000 11 [.res .u8 8 0, .nils, .bool true]) = true := by decide +kernel
theorem k0_L0up_f : isTrue (@Ev.run ⟨[(0, 9223372036854775807)], [], noSum⟩ Try.prog 100000 11 [.res .u8 8 0, .slx 0 0 0 0 [(0, 1)], .bool false]) = true := by decide +kernel
theorem k0_L0up_t : isTrue (@Ev.run ⟨[(0, 9223372036854775807)], [], noSum⟩ Try.prog 100000 11 [.res .u8 8 0, .slx 0 0 0 0 [(0, 1)], .bool true]) = true := by decide +kernel
theorem k1_Lnil_f : isTrue (@Ev.run ⟨[], [], noSum⟩ Try.prog 100000 11 [.res .u8 8 1, .nils, .bool false]) = true := by decide +kernel
theorem k1_Lnil_t : isTrue (@Ev.run ⟨[], [], noSum⟩ Try.prog 100000 11 [.res .u8 8 1, .nils, .bool true]) = true := by decide +kernel
end Go.Proofs.Ytnoddedgkgkfhaa.serviceStops
