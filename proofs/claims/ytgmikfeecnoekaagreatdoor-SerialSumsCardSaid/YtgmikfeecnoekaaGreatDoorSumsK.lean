/- The law's look at the program, 'known', answers true: a run of the evaluator. -/
import Derived.Test.YtgmikfeecnoekaaGreatDoorRows
import Derived.Test.YtgmikfeecnoekaaGreatDoorEvZ
import Derived.KernelRfl
import Derived.OpenShut
namespace Go.Proofs.YtgmikfeecnoekaaGreatDoor.serialSums
open Go.Ev Go.RowKit
noncomputable def tens : List Int := [1, 10, 100, 1000, 10000, 100000, 1000000, 10000000, 100000000, 1000000000, 10000000000, 100000000000, 1000000000000, 10000000000000, 100000000000000, 1000000000000000, 10000000000000000, 100000000000000000, 1000000000000000000, 10000000000000000000]
theorem k0 : isTrue (@runR ⟨[], [], noSum⟩ Tryz.prog 100000 8 [] [(1, 20, intAVs .u64 tens)] 0) = true := by decide +kernel
set_option maxRecDepth 100000 in
theorem known_calls (w : World) (hs : w.ShapedOpen Tryz.prog) (hL : laidMetH Tryz.prog Rows.serialSumsRow.laid w) (hmix : Tryz.prog.follows .mixedOrders = true) :
    Calls Tryz.prog 8 #[] w fun e w' => e = .returned (.bool true) ∧ Below w.heap.size w w' := by
  have hpl : (Rows.serialSumsRow.laid.all fun x => x.2.handleName?.isNone) = true := by kernel_rfl
  have hgs : Tryz.prog.globals.size = 8 := by kernel_rfl
  have ht := laid_ints hL hpl (n := "internal/strconv.uint64pow10") (k := .u64) (zs := tens) (g := 1) (N := 20) (t := 199) (e := 115) (List.mem_of_getElem? (i := 2) rfl) (by kernel_rfl) (by kernel_rfl) (by kernel_rfl) (by kernel_rfl) (by kernel_rfl)
  obtain ⟨E, hE⟩ := envOf [] [] noSum [] .nil (by intro e he; simp at he)
  letI : Facts := ⟨[], [], noSum⟩
  letI : Env := E
  refine glob_calls noSums hmix (shaped_size hs) ?_ (enter_of Tryz.func8 (by kernel_rfl) (by kernel_rfl)) (fun μ => .nil) k0
  intro x hx
  simp only [List.mem_cons, List.mem_nil_iff, or_false] at hx
  subst hx
  exact ints_glob (by rw [hgs]; decide) (by decide) ht
end Go.Proofs.YtgmikfeecnoekaaGreatDoor.serialSums
