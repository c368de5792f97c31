/- The law's look at the program, 'known', answers true: a run of the evaluator. -/
import Derived.Test.YtfpfdeechhaheaaDoorRows
import Derived.Test.YtfpfdeechhaheaaDoorEvZ
import Derived.KernelRfl
import Derived.OpenShut
namespace Go.Proofs.YtfpfdeechhaheaaDoor.Reads
open Go.Ev Go.RowKit
theorem k0 : isTrue (@runR ⟨[], [], noSum⟩ Tryd.prog 100000 8 [] [] 0) = true := by decide +kernel
set_option maxRecDepth 100000 in
theorem known_calls (w : World) (hsz : Tryd.prog.globals.size ≤ w.heap.size) (hmix : Tryd.prog.follows .mixedOrders = true) :
    Calls Tryd.prog 8 #[] w fun e w' => e = .returned (.bool true) ∧ Below w.heap.size w w' := by
  obtain ⟨E, hE⟩ := envOf [] [] noSum [] .nil (by intro e he; simp at he)
  letI : Facts := ⟨[], [], noSum⟩
  letI : Env := E
  refine glob_calls noSums hmix hsz (l := []) ?_ (enter_of Tryd.func8 (by kernel_rfl) (by kernel_rfl)) (fun μ => .nil) k0
  intro x hx
  exact nomatch hx
end Go.Proofs.YtfpfdeechhaheaaDoor.Reads
