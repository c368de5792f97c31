/- The law's look at the program, 'known', answers true: a run of the evaluator. -/
import Derived.Test.YtbigbjfppaenfaaDoorRows
import Derived.Test.YtbigbjfppaenfaaDoorEvZ
import Derived.KernelRfl
import Derived.OpenShut
namespace Go.Proofs.YtbigbjfppaenfaaDoor.Splits
open Go.Ev Go.RowKit
theorem k0 : isTrue (@runR ⟨[(-9223372036854775808, 9223372036854775807)], [], noSum⟩ Tryd.prog 100000 7 [] [(0, 1, [.sym .i64 0 [(0, 1)]])] 0) = true := by decide +kernel
set_option maxRecDepth 100000 in
theorem known_calls (w : World) (hsz : Tryd.prog.globals.size ≤ w.heap.size) (v : Int) (hv : w.cell? ⟨0, 0, none⟩ = some (.int .i64 v)) (hv1 : -9223372036854775808 ≤ v) (hv2 : v ≤ 9223372036854775807) (hmix : Tryd.prog.follows .mixedOrders = true) :
    Calls Tryd.prog 7 #[] w fun e w' => e = .returned (.bool true) ∧ Below w.heap.size w w' := by
  obtain ⟨E, hE⟩ := envOf [(-9223372036854775808, 9223372036854775807)] [] noSum [v] (.cons ⟨hv1, hv2⟩ .nil) (by intro e he; simp at he)
  letI : Facts := ⟨[(-9223372036854775808, 9223372036854775807)], [], noSum⟩
  letI : Env := E
  refine glob_calls noSums hmix hsz ?_ (enter_of Tryd.func7 (by kernel_rfl) (by kernel_rfl)) (fun μ => .nil) k0
  intro x hx
  simp only [List.mem_cons, List.mem_nil_iff, or_false] at hx
  subst hx
  have hgs : 0 < Tryd.prog.globals.size := by decide +kernel
  refine ⟨hgs, rfl, by decide, fun i u hi => ?_⟩
  have hi1 : i < 1 := by simpa using (List.getElem?_eq_some_iff.1 hi).1
  obtain rfl : i = 0 := by omega
  simp at hi
  subst hi
  exact ⟨rfl, _, hv, fun μ => .sym .i64 (by rw [hE]; simp)⟩
end Go.Proofs.YtbigbjfppaenfaaDoor.Splits
