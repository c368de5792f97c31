/- The statement 'SpanBounds' holds of the given program: whatever the input, the law's function returns true. The package-level variables that its row lists read as the program's text lays them. -/
import Derived.Test.YtfpfdeechhaheaaDoorRows
import Derived.Test.YtfpfdeechhaheaaDoorTie
import Derived.Test.YtfpfdeechhaheaaDoorCards
import Derived.LaidMore
import Derived.Lay
import Derived.SevenTiedAt
import Derived.Stop.Joined
import Derived.WalkKit
import Derived.ProofKit
import Derived.OpenShut
import Derived.ShutString
import Derived.Test.YtfpfdeechhaheaaDoorEv6
import Derived.Test.YtfpfdeechhaheaaDoorBoundsK0
import Derived.Test.YtfpfdeechhaheaaDoorBoundsK1
import Derived.Test.YtfpfdeechhaheaaDoorBoundsK2
import Derived.Test.YtfpfdeechhaheaaDoorBoundsK3
import Derived.Test.YtfpfdeechhaheaaDoorBoundsK4
namespace Go.Proofs.YtfpfdeechhaheaaDoor.spanBounds
open Go.Ev
open Go.ChangeShapes Go.WideShapes Go.ChangeAt Go.RowKit
open Go.ChangeMaps (open_string shut_string)
set_option linter.unusedVariables false      -- a walk need not use every 'w<i>' (that an integer argument fits its kind)

theorem own : ownKnob Tryd.prog.godebug = none := by kernel_rfl

set_option maxHeartbeats 20000000 in
theorem walk (a0 : Int) (a1 : Int) (w0 : (Lit.int .i64 a0).wf = true) (w1 : (Lit.int .i64 a1).wf = true) (w : World) (hs : w.ShapedOpen Tryd.prog) :
    Calls Tryd.prog 7 #[.int .i64 a0, .int .i64 a1] w fun e w' => e = .returned (.bool true) ∧ Below w.heap.size w w' := by
  have hmix : Tryd.prog.follows .mixedOrders = true := Tryd.checked.mixed
  have hb0 : -9223372036854775808 ≤ a0 ∧ a0 ≤ 9223372036854775807 := by
    have := w0
    simp [Lit.wf, IntKind.min, IntKind.max, IntKind.signed, IntKind.bits] at this
    omega
  have hb1 : -9223372036854775808 ≤ a1 ∧ a1 ≤ 9223372036854775807 := by
    have := w1
    simp [Lit.wf, IntKind.min, IntKind.max, IntKind.signed, IntKind.bits] at this
    omega
  have key : ∀ (F : Facts) (E : @Env F) (l : List AV), @SumsOK F E Tryd.prog → (∀ μ, @VRs F E μ l [.int .i64 a0, .int .i64 a1]) → isTrue (@Ev.run F Tryd.prog 100000 7 l) = true →
      Calls Tryd.prog 7 #[.int .i64 a0, .int .i64 a1] w fun e w' => e = .returned (.bool true) ∧ Below w.heap.size w w' := fun F E l hS hv h =>
    run_calls (F := F) (E := E) hS hmix (shaped_size hs) (enter_of Tryd.func7 (by kernel_rfl) (by kernel_rfl)) hv h
  have ho0 : (-9223372036854775808 ≤ a0 ∧ a0 ≤ -4611686018427387905) ∨ (-4611686018427387904 ≤ a0 ∧ a0 ≤ -2) ∨ a0 = -1 ∨ a0 = 0 ∨ (1 ≤ a0 ∧ a0 ≤ 4611686018427387903) ∨ (4611686018427387904 ≤ a0 ∧ a0 ≤ 9223372036854775806) ∨ a0 = 9223372036854775807 := by omega
  have ho1 : a1 = -9223372036854775808 ∨ (-9223372036854775807 ≤ a1 ∧ a1 ≤ -4611686018427387905) ∨ (-4611686018427387904 ≤ a1 ∧ a1 ≤ -1) ∨ a1 = 0 ∨ (1 ≤ a1 ∧ a1 ≤ 4611686018427387903) ∨ (4611686018427387904 ≤ a1 ∧ a1 ≤ 9223372036854775806) ∨ a1 = 9223372036854775807 := by omega
  rcases ho0 with h0 | h0 | rfl | rfl | h0 | h0 | rfl
  · rcases ho1 with rfl | h1 | h1 | rfl | h1 | h1 | rfl
    · obtain ⟨E, hE⟩ := envOf [(-9223372036854775808, -4611686018427387905)] [] noSum [a0] (.cons (⟨by omega, by omega⟩) .nil) (by intro e he; simp at he)
      exact key _ E _ noSums (fun μ => by letI : Facts := ⟨[(-9223372036854775808, -4611686018427387905)], [], noSum⟩; letI : Env := E; exact .cons (.sym .i64 (by rw [hE]; simp)) (.cons (.int .i64 _) .nil)) k0_0
    · obtain ⟨E, hE⟩ := envOf [(-9223372036854775808, -4611686018427387905), (-9223372036854775807, -4611686018427387905)] [] noSum [a0, a1] (.cons (⟨by omega, by omega⟩) (.cons (⟨by omega, by omega⟩) .nil)) (by intro e he; simp at he)
      exact key _ E _ noSums (fun μ => by letI : Facts := ⟨[(-9223372036854775808, -4611686018427387905), (-9223372036854775807, -4611686018427387905)], [], noSum⟩; letI : Env := E; exact .cons (.sym .i64 (by rw [hE]; simp)) (.cons (.sym .i64 (by rw [hE]; simp)) .nil)) k0_1
    · rcases (by omega : (-13835058055282163712 ≤ a0 + a1 ∧ a0 + a1 ≤ -9223372036854775809) ∨ (-9223372036854775808 ≤ a0 + a1 ∧ a0 + a1 ≤ -4611686018427387906)) with hs0 | hs0
      · obtain ⟨E, hE⟩ := envOf [(-9223372036854775808, -4611686018427387905), (-4611686018427387904, -1)] [([(0, 1), (1, 1)], -13835058055282163712, -9223372036854775809)] noSum [a0, a1] (.cons (⟨by omega, by omega⟩) (.cons (⟨by omega, by omega⟩) .nil)) (by intro e he; simp at he; subst he; simp; omega)
        exact key _ E _ noSums (fun μ => by letI : Facts := ⟨[(-9223372036854775808, -4611686018427387905), (-4611686018427387904, -1)], [([(0, 1), (1, 1)], -13835058055282163712, -9223372036854775809)], noSum⟩; letI : Env := E; exact .cons (.sym .i64 (by rw [hE]; simp)) (.cons (.sym .i64 (by rw [hE]; simp)) .nil)) k0_2s0
      · obtain ⟨E, hE⟩ := envOf [(-9223372036854775808, -4611686018427387905), (-4611686018427387904, -1)] [([(0, 1), (1, 1)], -9223372036854775808, -4611686018427387906)] noSum [a0, a1] (.cons (⟨by omega, by omega⟩) (.cons (⟨by omega, by omega⟩) .nil)) (by intro e he; simp at he; subst he; simp; omega)
        exact key _ E _ noSums (fun μ => by letI : Facts := ⟨[(-9223372036854775808, -4611686018427387905), (-4611686018427387904, -1)], [([(0, 1), (1, 1)], -9223372036854775808, -4611686018427387906)], noSum⟩; letI : Env := E; exact .cons (.sym .i64 (by rw [hE]; simp)) (.cons (.sym .i64 (by rw [hE]; simp)) .nil)) k0_2s1
    · obtain ⟨E, hE⟩ := envOf [(-9223372036854775808, -4611686018427387905)] [] noSum [a0] (.cons (⟨by omega, by omega⟩) .nil) (by intro e he; simp at he)
      exact key _ E _ noSums (fun μ => by letI : Facts := ⟨[(-9223372036854775808, -4611686018427387905)], [], noSum⟩; letI : Env := E; exact .cons (.sym .i64 (by rw [hE]; simp)) (.cons (.int .i64 _) .nil)) k0_3
    · obtain ⟨E, hE⟩ := envOf [(-9223372036854775808, -4611686018427387905), (1, 4611686018427387903)] [] noSum [a0, a1] (.cons (⟨by omega, by omega⟩) (.cons (⟨by omega, by omega⟩) .nil)) (by intro e he; simp at he)
      exact key _ E _ noSums (fun μ => by letI : Facts := ⟨[(-9223372036854775808, -4611686018427387905), (1, 4611686018427387903)], [], noSum⟩; letI : Env := E; exact .cons (.sym .i64 (by rw [hE]; simp)) (.cons (.sym .i64 (by rw [hE]; simp)) .nil)) k0_4
    · obtain ⟨E, hE⟩ := envOf [(-9223372036854775808, -4611686018427387905), (4611686018427387904, 9223372036854775806)] [] noSum [a0, a1] (.cons (⟨by omega, by omega⟩) (.cons (⟨by omega, by omega⟩) .nil)) (by intro e he; simp at he)
      exact key _ E _ noSums (fun μ => by letI : Facts := ⟨[(-9223372036854775808, -4611686018427387905), (4611686018427387904, 9223372036854775806)], [], noSum⟩; letI : Env := E; exact .cons (.sym .i64 (by rw [hE]; simp)) (.cons (.sym .i64 (by rw [hE]; simp)) .nil)) k0_5
    · obtain ⟨E, hE⟩ := envOf [(-9223372036854775808, -4611686018427387905)] [] noSum [a0] (.cons (⟨by omega, by omega⟩) .nil) (by intro e he; simp at he)
      exact key _ E _ noSums (fun μ => by letI : Facts := ⟨[(-9223372036854775808, -4611686018427387905)], [], noSum⟩; letI : Env := E; exact .cons (.sym .i64 (by rw [hE]; simp)) (.cons (.int .i64 _) .nil)) k0_6
  · rcases ho1 with rfl | h1 | h1 | rfl | h1 | h1 | rfl
    · obtain ⟨E, hE⟩ := envOf [(-4611686018427387904, -2)] [] noSum [a0] (.cons (⟨by omega, by omega⟩) .nil) (by intro e he; simp at he)
      exact key _ E _ noSums (fun μ => by letI : Facts := ⟨[(-4611686018427387904, -2)], [], noSum⟩; letI : Env := E; exact .cons (.sym .i64 (by rw [hE]; simp)) (.cons (.int .i64 _) .nil)) k1_0
    · rcases (by omega : (-13835058055282163711 ≤ a0 + a1 ∧ a0 + a1 ≤ -9223372036854775809) ∨ (-9223372036854775808 ≤ a0 + a1 ∧ a0 + a1 ≤ -4611686018427387907)) with hs0 | hs0
      · obtain ⟨E, hE⟩ := envOf [(-4611686018427387904, -2), (-9223372036854775807, -4611686018427387905)] [([(0, 1), (1, 1)], -13835058055282163711, -9223372036854775809)] noSum [a0, a1] (.cons (⟨by omega, by omega⟩) (.cons (⟨by omega, by omega⟩) .nil)) (by intro e he; simp at he; subst he; simp; omega)
        exact key _ E _ noSums (fun μ => by letI : Facts := ⟨[(-4611686018427387904, -2), (-9223372036854775807, -4611686018427387905)], [([(0, 1), (1, 1)], -13835058055282163711, -9223372036854775809)], noSum⟩; letI : Env := E; exact .cons (.sym .i64 (by rw [hE]; simp)) (.cons (.sym .i64 (by rw [hE]; simp)) .nil)) k1_1s0
      · obtain ⟨E, hE⟩ := envOf [(-4611686018427387904, -2), (-9223372036854775807, -4611686018427387905)] [([(0, 1), (1, 1)], -9223372036854775808, -4611686018427387907)] noSum [a0, a1] (.cons (⟨by omega, by omega⟩) (.cons (⟨by omega, by omega⟩) .nil)) (by intro e he; simp at he; subst he; simp; omega)
        exact key _ E _ noSums (fun μ => by letI : Facts := ⟨[(-4611686018427387904, -2), (-9223372036854775807, -4611686018427387905)], [([(0, 1), (1, 1)], -9223372036854775808, -4611686018427387907)], noSum⟩; letI : Env := E; exact .cons (.sym .i64 (by rw [hE]; simp)) (.cons (.sym .i64 (by rw [hE]; simp)) .nil)) k1_1s1
    · obtain ⟨E, hE⟩ := envOf [(-4611686018427387904, -2), (-4611686018427387904, -1)] [] noSum [a0, a1] (.cons (⟨by omega, by omega⟩) (.cons (⟨by omega, by omega⟩) .nil)) (by intro e he; simp at he)
      exact key _ E _ noSums (fun μ => by letI : Facts := ⟨[(-4611686018427387904, -2), (-4611686018427387904, -1)], [], noSum⟩; letI : Env := E; exact .cons (.sym .i64 (by rw [hE]; simp)) (.cons (.sym .i64 (by rw [hE]; simp)) .nil)) k1_2
    · obtain ⟨E, hE⟩ := envOf [(-4611686018427387904, -2)] [] noSum [a0] (.cons (⟨by omega, by omega⟩) .nil) (by intro e he; simp at he)
      exact key _ E _ noSums (fun μ => by letI : Facts := ⟨[(-4611686018427387904, -2)], [], noSum⟩; letI : Env := E; exact .cons (.sym .i64 (by rw [hE]; simp)) (.cons (.int .i64 _) .nil)) k1_3
    · obtain ⟨E, hE⟩ := envOf [(-4611686018427387904, -2), (1, 4611686018427387903)] [] noSum [a0, a1] (.cons (⟨by omega, by omega⟩) (.cons (⟨by omega, by omega⟩) .nil)) (by intro e he; simp at he)
      exact key _ E _ noSums (fun μ => by letI : Facts := ⟨[(-4611686018427387904, -2), (1, 4611686018427387903)], [], noSum⟩; letI : Env := E; exact .cons (.sym .i64 (by rw [hE]; simp)) (.cons (.sym .i64 (by rw [hE]; simp)) .nil)) k1_4
    · obtain ⟨E, hE⟩ := envOf [(-4611686018427387904, -2), (4611686018427387904, 9223372036854775806)] [] noSum [a0, a1] (.cons (⟨by omega, by omega⟩) (.cons (⟨by omega, by omega⟩) .nil)) (by intro e he; simp at he)
      exact key _ E _ noSums (fun μ => by letI : Facts := ⟨[(-4611686018427387904, -2), (4611686018427387904, 9223372036854775806)], [], noSum⟩; letI : Env := E; exact .cons (.sym .i64 (by rw [hE]; simp)) (.cons (.sym .i64 (by rw [hE]; simp)) .nil)) k1_5
    · obtain ⟨E, hE⟩ := envOf [(-4611686018427387904, -2)] [] noSum [a0] (.cons (⟨by omega, by omega⟩) .nil) (by intro e he; simp at he)
      exact key _ E _ noSums (fun μ => by letI : Facts := ⟨[(-4611686018427387904, -2)], [], noSum⟩; letI : Env := E; exact .cons (.sym .i64 (by rw [hE]; simp)) (.cons (.int .i64 _) .nil)) k1_6
  · rcases ho1 with rfl | h1 | h1 | rfl | h1 | h1 | rfl
    · obtain ⟨E, hE⟩ := envOf [] [] noSum [] (.nil) (by intro e he; simp at he)
      exact key _ E _ noSums (fun μ => by letI : Facts := ⟨[], [], noSum⟩; letI : Env := E; exact .cons (.int .i64 _) (.cons (.int .i64 _) .nil)) k2_0
    · obtain ⟨E, hE⟩ := envOf [(-9223372036854775807, -4611686018427387905)] [] noSum [a1] (.cons (⟨by omega, by omega⟩) .nil) (by intro e he; simp at he)
      exact key _ E _ noSums (fun μ => by letI : Facts := ⟨[(-9223372036854775807, -4611686018427387905)], [], noSum⟩; letI : Env := E; exact .cons (.int .i64 _) (.cons (.sym .i64 (by rw [hE]; simp)) .nil)) k2_1
    · obtain ⟨E, hE⟩ := envOf [(-4611686018427387904, -1)] [] noSum [a1] (.cons (⟨by omega, by omega⟩) .nil) (by intro e he; simp at he)
      exact key _ E _ noSums (fun μ => by letI : Facts := ⟨[(-4611686018427387904, -1)], [], noSum⟩; letI : Env := E; exact .cons (.int .i64 _) (.cons (.sym .i64 (by rw [hE]; simp)) .nil)) k2_2
    · obtain ⟨E, hE⟩ := envOf [] [] noSum [] (.nil) (by intro e he; simp at he)
      exact key _ E _ noSums (fun μ => by letI : Facts := ⟨[], [], noSum⟩; letI : Env := E; exact .cons (.int .i64 _) (.cons (.int .i64 _) .nil)) k2_3
    · obtain ⟨E, hE⟩ := envOf [(1, 4611686018427387903)] [] noSum [a1] (.cons (⟨by omega, by omega⟩) .nil) (by intro e he; simp at he)
      exact key _ E _ noSums (fun μ => by letI : Facts := ⟨[(1, 4611686018427387903)], [], noSum⟩; letI : Env := E; exact .cons (.int .i64 _) (.cons (.sym .i64 (by rw [hE]; simp)) .nil)) k2_4
    · obtain ⟨E, hE⟩ := envOf [(4611686018427387904, 9223372036854775806)] [] noSum [a1] (.cons (⟨by omega, by omega⟩) .nil) (by intro e he; simp at he)
      exact key _ E _ noSums (fun μ => by letI : Facts := ⟨[(4611686018427387904, 9223372036854775806)], [], noSum⟩; letI : Env := E; exact .cons (.int .i64 _) (.cons (.sym .i64 (by rw [hE]; simp)) .nil)) k2_5
    · obtain ⟨E, hE⟩ := envOf [] [] noSum [] (.nil) (by intro e he; simp at he)
      exact key _ E _ noSums (fun μ => by letI : Facts := ⟨[], [], noSum⟩; letI : Env := E; exact .cons (.int .i64 _) (.cons (.int .i64 _) .nil)) k2_6
  · rcases ho1 with rfl | h1 | h1 | rfl | h1 | h1 | rfl
    · obtain ⟨E, hE⟩ := envOf [] [] noSum [] (.nil) (by intro e he; simp at he)
      exact key _ E _ noSums (fun μ => by letI : Facts := ⟨[], [], noSum⟩; letI : Env := E; exact .cons (.int .i64 _) (.cons (.int .i64 _) .nil)) k3_0
    · obtain ⟨E, hE⟩ := envOf [(-9223372036854775807, -4611686018427387905)] [] noSum [a1] (.cons (⟨by omega, by omega⟩) .nil) (by intro e he; simp at he)
      exact key _ E _ noSums (fun μ => by letI : Facts := ⟨[(-9223372036854775807, -4611686018427387905)], [], noSum⟩; letI : Env := E; exact .cons (.int .i64 _) (.cons (.sym .i64 (by rw [hE]; simp)) .nil)) k3_1
    · obtain ⟨E, hE⟩ := envOf [(-4611686018427387904, -1)] [] noSum [a1] (.cons (⟨by omega, by omega⟩) .nil) (by intro e he; simp at he)
      exact key _ E _ noSums (fun μ => by letI : Facts := ⟨[(-4611686018427387904, -1)], [], noSum⟩; letI : Env := E; exact .cons (.int .i64 _) (.cons (.sym .i64 (by rw [hE]; simp)) .nil)) k3_2
    · obtain ⟨E, hE⟩ := envOf [] [] noSum [] (.nil) (by intro e he; simp at he)
      exact key _ E _ noSums (fun μ => by letI : Facts := ⟨[], [], noSum⟩; letI : Env := E; exact .cons (.int .i64 _) (.cons (.int .i64 _) .nil)) k3_3
    · obtain ⟨E, hE⟩ := envOf [(1, 4611686018427387903)] [] noSum [a1] (.cons (⟨by omega, by omega⟩) .nil) (by intro e he; simp at he)
      exact key _ E _ noSums (fun μ => by letI : Facts := ⟨[(1, 4611686018427387903)], [], noSum⟩; letI : Env := E; exact .cons (.int .i64 _) (.cons (.sym .i64 (by rw [hE]; simp)) .nil)) k3_4
    · obtain ⟨E, hE⟩ := envOf [(4611686018427387904, 9223372036854775806)] [] noSum [a1] (.cons (⟨by omega, by omega⟩) .nil) (by intro e he; simp at he)
      exact key _ E _ noSums (fun μ => by letI : Facts := ⟨[(4611686018427387904, 9223372036854775806)], [], noSum⟩; letI : Env := E; exact .cons (.int .i64 _) (.cons (.sym .i64 (by rw [hE]; simp)) .nil)) k3_5
    · obtain ⟨E, hE⟩ := envOf [] [] noSum [] (.nil) (by intro e he; simp at he)
      exact key _ E _ noSums (fun μ => by letI : Facts := ⟨[], [], noSum⟩; letI : Env := E; exact .cons (.int .i64 _) (.cons (.int .i64 _) .nil)) k3_6
  · rcases ho1 with rfl | h1 | h1 | rfl | h1 | h1 | rfl
    · obtain ⟨E, hE⟩ := envOf [(1, 4611686018427387903)] [] noSum [a0] (.cons (⟨by omega, by omega⟩) .nil) (by intro e he; simp at he)
      exact key _ E _ noSums (fun μ => by letI : Facts := ⟨[(1, 4611686018427387903)], [], noSum⟩; letI : Env := E; exact .cons (.sym .i64 (by rw [hE]; simp)) (.cons (.int .i64 _) .nil)) k4_0
    · obtain ⟨E, hE⟩ := envOf [(1, 4611686018427387903), (-9223372036854775807, -4611686018427387905)] [] noSum [a0, a1] (.cons (⟨by omega, by omega⟩) (.cons (⟨by omega, by omega⟩) .nil)) (by intro e he; simp at he)
      exact key _ E _ noSums (fun μ => by letI : Facts := ⟨[(1, 4611686018427387903), (-9223372036854775807, -4611686018427387905)], [], noSum⟩; letI : Env := E; exact .cons (.sym .i64 (by rw [hE]; simp)) (.cons (.sym .i64 (by rw [hE]; simp)) .nil)) k4_1
    · obtain ⟨E, hE⟩ := envOf [(1, 4611686018427387903), (-4611686018427387904, -1)] [] noSum [a0, a1] (.cons (⟨by omega, by omega⟩) (.cons (⟨by omega, by omega⟩) .nil)) (by intro e he; simp at he)
      exact key _ E _ noSums (fun μ => by letI : Facts := ⟨[(1, 4611686018427387903), (-4611686018427387904, -1)], [], noSum⟩; letI : Env := E; exact .cons (.sym .i64 (by rw [hE]; simp)) (.cons (.sym .i64 (by rw [hE]; simp)) .nil)) k4_2
    · obtain ⟨E, hE⟩ := envOf [(1, 4611686018427387903)] [] noSum [a0] (.cons (⟨by omega, by omega⟩) .nil) (by intro e he; simp at he)
      exact key _ E _ noSums (fun μ => by letI : Facts := ⟨[(1, 4611686018427387903)], [], noSum⟩; letI : Env := E; exact .cons (.sym .i64 (by rw [hE]; simp)) (.cons (.int .i64 _) .nil)) k4_3
    · obtain ⟨E, hE⟩ := envOf [(1, 4611686018427387903), (1, 4611686018427387903)] [] noSum [a0, a1] (.cons (⟨by omega, by omega⟩) (.cons (⟨by omega, by omega⟩) .nil)) (by intro e he; simp at he)
      exact key _ E _ noSums (fun μ => by letI : Facts := ⟨[(1, 4611686018427387903), (1, 4611686018427387903)], [], noSum⟩; letI : Env := E; exact .cons (.sym .i64 (by rw [hE]; simp)) (.cons (.sym .i64 (by rw [hE]; simp)) .nil)) k4_4
    · rcases (by omega : (4611686018427387905 ≤ a0 + a1 ∧ a0 + a1 ≤ 9223372036854775807) ∨ (9223372036854775808 ≤ a0 + a1 ∧ a0 + a1 ≤ 13835058055282163709)) with hs0 | hs0
      · obtain ⟨E, hE⟩ := envOf [(1, 4611686018427387903), (4611686018427387904, 9223372036854775806)] [([(0, 1), (1, 1)], 4611686018427387905, 9223372036854775807)] noSum [a0, a1] (.cons (⟨by omega, by omega⟩) (.cons (⟨by omega, by omega⟩) .nil)) (by intro e he; simp at he; subst he; simp; omega)
        exact key _ E _ noSums (fun μ => by letI : Facts := ⟨[(1, 4611686018427387903), (4611686018427387904, 9223372036854775806)], [([(0, 1), (1, 1)], 4611686018427387905, 9223372036854775807)], noSum⟩; letI : Env := E; exact .cons (.sym .i64 (by rw [hE]; simp)) (.cons (.sym .i64 (by rw [hE]; simp)) .nil)) k4_5s0
      · obtain ⟨E, hE⟩ := envOf [(1, 4611686018427387903), (4611686018427387904, 9223372036854775806)] [([(0, 1), (1, 1)], 9223372036854775808, 13835058055282163709)] noSum [a0, a1] (.cons (⟨by omega, by omega⟩) (.cons (⟨by omega, by omega⟩) .nil)) (by intro e he; simp at he; subst he; simp; omega)
        exact key _ E _ noSums (fun μ => by letI : Facts := ⟨[(1, 4611686018427387903), (4611686018427387904, 9223372036854775806)], [([(0, 1), (1, 1)], 9223372036854775808, 13835058055282163709)], noSum⟩; letI : Env := E; exact .cons (.sym .i64 (by rw [hE]; simp)) (.cons (.sym .i64 (by rw [hE]; simp)) .nil)) k4_5s1
    · obtain ⟨E, hE⟩ := envOf [(1, 4611686018427387903)] [] noSum [a0] (.cons (⟨by omega, by omega⟩) .nil) (by intro e he; simp at he)
      exact key _ E _ noSums (fun μ => by letI : Facts := ⟨[(1, 4611686018427387903)], [], noSum⟩; letI : Env := E; exact .cons (.sym .i64 (by rw [hE]; simp)) (.cons (.int .i64 _) .nil)) k4_6
  · rcases ho1 with rfl | h1 | h1 | rfl | h1 | h1 | rfl
    · obtain ⟨E, hE⟩ := envOf [(4611686018427387904, 9223372036854775806)] [] noSum [a0] (.cons (⟨by omega, by omega⟩) .nil) (by intro e he; simp at he)
      exact key _ E _ noSums (fun μ => by letI : Facts := ⟨[(4611686018427387904, 9223372036854775806)], [], noSum⟩; letI : Env := E; exact .cons (.sym .i64 (by rw [hE]; simp)) (.cons (.int .i64 _) .nil)) k5_0
    · obtain ⟨E, hE⟩ := envOf [(4611686018427387904, 9223372036854775806), (-9223372036854775807, -4611686018427387905)] [] noSum [a0, a1] (.cons (⟨by omega, by omega⟩) (.cons (⟨by omega, by omega⟩) .nil)) (by intro e he; simp at he)
      exact key _ E _ noSums (fun μ => by letI : Facts := ⟨[(4611686018427387904, 9223372036854775806), (-9223372036854775807, -4611686018427387905)], [], noSum⟩; letI : Env := E; exact .cons (.sym .i64 (by rw [hE]; simp)) (.cons (.sym .i64 (by rw [hE]; simp)) .nil)) k5_1
    · obtain ⟨E, hE⟩ := envOf [(4611686018427387904, 9223372036854775806), (-4611686018427387904, -1)] [] noSum [a0, a1] (.cons (⟨by omega, by omega⟩) (.cons (⟨by omega, by omega⟩) .nil)) (by intro e he; simp at he)
      exact key _ E _ noSums (fun μ => by letI : Facts := ⟨[(4611686018427387904, 9223372036854775806), (-4611686018427387904, -1)], [], noSum⟩; letI : Env := E; exact .cons (.sym .i64 (by rw [hE]; simp)) (.cons (.sym .i64 (by rw [hE]; simp)) .nil)) k5_2
    · obtain ⟨E, hE⟩ := envOf [(4611686018427387904, 9223372036854775806)] [] noSum [a0] (.cons (⟨by omega, by omega⟩) .nil) (by intro e he; simp at he)
      exact key _ E _ noSums (fun μ => by letI : Facts := ⟨[(4611686018427387904, 9223372036854775806)], [], noSum⟩; letI : Env := E; exact .cons (.sym .i64 (by rw [hE]; simp)) (.cons (.int .i64 _) .nil)) k5_3
    · rcases (by omega : (4611686018427387905 ≤ a0 + a1 ∧ a0 + a1 ≤ 9223372036854775807) ∨ (9223372036854775808 ≤ a0 + a1 ∧ a0 + a1 ≤ 13835058055282163709)) with hs0 | hs0
      · obtain ⟨E, hE⟩ := envOf [(4611686018427387904, 9223372036854775806), (1, 4611686018427387903)] [([(0, 1), (1, 1)], 4611686018427387905, 9223372036854775807)] noSum [a0, a1] (.cons (⟨by omega, by omega⟩) (.cons (⟨by omega, by omega⟩) .nil)) (by intro e he; simp at he; subst he; simp; omega)
        exact key _ E _ noSums (fun μ => by letI : Facts := ⟨[(4611686018427387904, 9223372036854775806), (1, 4611686018427387903)], [([(0, 1), (1, 1)], 4611686018427387905, 9223372036854775807)], noSum⟩; letI : Env := E; exact .cons (.sym .i64 (by rw [hE]; simp)) (.cons (.sym .i64 (by rw [hE]; simp)) .nil)) k5_4s0
      · obtain ⟨E, hE⟩ := envOf [(4611686018427387904, 9223372036854775806), (1, 4611686018427387903)] [([(0, 1), (1, 1)], 9223372036854775808, 13835058055282163709)] noSum [a0, a1] (.cons (⟨by omega, by omega⟩) (.cons (⟨by omega, by omega⟩) .nil)) (by intro e he; simp at he; subst he; simp; omega)
        exact key _ E _ noSums (fun μ => by letI : Facts := ⟨[(4611686018427387904, 9223372036854775806), (1, 4611686018427387903)], [([(0, 1), (1, 1)], 9223372036854775808, 13835058055282163709)], noSum⟩; letI : Env := E; exact .cons (.sym .i64 (by rw [hE]; simp)) (.cons (.sym .i64 (by rw [hE]; simp)) .nil)) k5_4s1
    · obtain ⟨E, hE⟩ := envOf [(4611686018427387904, 9223372036854775806), (4611686018427387904, 9223372036854775806)] [] noSum [a0, a1] (.cons (⟨by omega, by omega⟩) (.cons (⟨by omega, by omega⟩) .nil)) (by intro e he; simp at he)
      exact key _ E _ noSums (fun μ => by letI : Facts := ⟨[(4611686018427387904, 9223372036854775806), (4611686018427387904, 9223372036854775806)], [], noSum⟩; letI : Env := E; exact .cons (.sym .i64 (by rw [hE]; simp)) (.cons (.sym .i64 (by rw [hE]; simp)) .nil)) k5_5
    · obtain ⟨E, hE⟩ := envOf [(4611686018427387904, 9223372036854775806)] [] noSum [a0] (.cons (⟨by omega, by omega⟩) .nil) (by intro e he; simp at he)
      exact key _ E _ noSums (fun μ => by letI : Facts := ⟨[(4611686018427387904, 9223372036854775806)], [], noSum⟩; letI : Env := E; exact .cons (.sym .i64 (by rw [hE]; simp)) (.cons (.int .i64 _) .nil)) k5_6
  · rcases ho1 with rfl | h1 | h1 | rfl | h1 | h1 | rfl
    · obtain ⟨E, hE⟩ := envOf [] [] noSum [] (.nil) (by intro e he; simp at he)
      exact key _ E _ noSums (fun μ => by letI : Facts := ⟨[], [], noSum⟩; letI : Env := E; exact .cons (.int .i64 _) (.cons (.int .i64 _) .nil)) k6_0
    · obtain ⟨E, hE⟩ := envOf [(-9223372036854775807, -4611686018427387905)] [] noSum [a1] (.cons (⟨by omega, by omega⟩) .nil) (by intro e he; simp at he)
      exact key _ E _ noSums (fun μ => by letI : Facts := ⟨[(-9223372036854775807, -4611686018427387905)], [], noSum⟩; letI : Env := E; exact .cons (.int .i64 _) (.cons (.sym .i64 (by rw [hE]; simp)) .nil)) k6_1
    · obtain ⟨E, hE⟩ := envOf [(-4611686018427387904, -1)] [] noSum [a1] (.cons (⟨by omega, by omega⟩) .nil) (by intro e he; simp at he)
      exact key _ E _ noSums (fun μ => by letI : Facts := ⟨[(-4611686018427387904, -1)], [], noSum⟩; letI : Env := E; exact .cons (.int .i64 _) (.cons (.sym .i64 (by rw [hE]; simp)) .nil)) k6_2
    · obtain ⟨E, hE⟩ := envOf [] [] noSum [] (.nil) (by intro e he; simp at he)
      exact key _ E _ noSums (fun μ => by letI : Facts := ⟨[], [], noSum⟩; letI : Env := E; exact .cons (.int .i64 _) (.cons (.int .i64 _) .nil)) k6_3
    · obtain ⟨E, hE⟩ := envOf [(1, 4611686018427387903)] [] noSum [a1] (.cons (⟨by omega, by omega⟩) .nil) (by intro e he; simp at he)
      exact key _ E _ noSums (fun μ => by letI : Facts := ⟨[(1, 4611686018427387903)], [], noSum⟩; letI : Env := E; exact .cons (.int .i64 _) (.cons (.sym .i64 (by rw [hE]; simp)) .nil)) k6_4
    · obtain ⟨E, hE⟩ := envOf [(4611686018427387904, 9223372036854775806)] [] noSum [a1] (.cons (⟨by omega, by omega⟩) .nil) (by intro e he; simp at he)
      exact key _ E _ noSums (fun μ => by letI : Facts := ⟨[(4611686018427387904, 9223372036854775806)], [], noSum⟩; letI : Env := E; exact .cons (.int .i64 _) (.cons (.sym .i64 (by rw [hE]; simp)) .nil)) k6_5
    · obtain ⟨E, hE⟩ := envOf [] [] noSum [] (.nil) (by intro e he; simp at he)
      exact key _ E _ noSums (fun μ => by letI : Facts := ⟨[], [], noSum⟩; letI : Env := E; exact .cons (.int .i64 _) (.cons (.int .i64 _) .nil)) k6_6

/-! ### THE ROW's STEP: WRITTEN OUT: LEAVE IT -/
set_option maxRecDepth 100000 in
theorem lifted (os : Os) (started : os.Started) (H : Type) (enc : TypeId × Value → H) :
    ReturnsInHanded {} Tryd.checked os 7 .any (fun w args => (Rows.spanBoundsSpec.pre enc Tryd.prog Tryd.f7 Rows.spanBoundsRow.domain false w args ∧ laidMetH Tryd.prog Rows.spanBoundsRow.laid w) ∧ sizedMet enc Tryd.prog Tryd.f7 (OpenSpec.ofChange Rows.spanBoundsSpec) false w args) (Rows.spanBoundsSpec.post enc Tryd.prog Tryd.f7 false true false false) := by
  refine of_shaped_and (C := Tryd.checked) (X := fun w _ => laidMetH Tryd.prog Rows.spanBoundsRow.laid w) (fun _ _ _ hh h => h.of_heap hh) own started (by kernel_rfl) Tryd.func7
    (ChangeSpec.witness_shaped (enc := enc) (C := Tryd.checked) (os := os) (X := fun w _ => laidMetH Tryd.prog Rows.spanBoundsRow.laid w) false (World.laidAll Tryd.prog os Rows.spanBoundsRow.laid) #[.int .i64 0, .int .i64 0] 8 (World.laidAll_os _ _ _)
      (World.shaped_of_ZipB (by kernel_rfl) (by kernel_rfl)) (by kernel_rfl) (by kernel_rfl) (by kernel_rfl)
      (by rw [MakeChecks.laidMetH_plain _ _ _ (by kernel_rfl)]; exact laidMet_laidAll _ (by kernel_rfl) (by kernel_rfl))) ?_
  intro W base args ds gs before hshape hval0 hW hL
  have hval : ∀ (j : Nat) t v, Tryd.f7.params[j]? = some t → args[j]? = some v → Value.okWide Tryd.prog W .any base t v := hval0
  have hW' := hW
  obtain ⟨p, q, hA0, hV, rfl, hfz, hnd⟩ := hW
  have hA : DataW.TrodAll enc Tryd.prog W 0 (fun _ => true) true Tryd.f7.params.toList args.toList ds p := hA0
  rw [Tryd.params7] at hA hval
  obtain ⟨v0, vs0, d0, ds0, p0, q0, hargs, rfl, rfl, h0, r0⟩ := trodAll_cons hA
  obtain ⟨v1, vs1, d1, ds1, p1, q1, rfl, rfl, rfl, h1, r1⟩ := trodAll_cons r0
  obtain ⟨rfl, rfl, rfl⟩ := trodAll_nil r1
  obtain rfl : args = #[v0, v1] := by cases args; simp_all
  obtain ⟨rfl, rfl⟩ := trodVars_none hV
  obtain ⟨a0, rfl, rfl, rfl, w0⟩ := open_int Tryd.underlying2 (hval 0 2 v0 rfl rfl) h0
  obtain ⟨a1, rfl, rfl, rfl, w1⟩ := open_int Tryd.underlying2 (hval 1 2 v1 rfl rfl) h1
  clear hA0 hval0
  simp only [List.append_nil] at hW'
  refine (walk a0 a1 w0 w1 W hshape).mono fun e W' ⟨he, hg⟩ => ?_
  subst he
  exact ⟨_, rfl, _, _, _, [], _, [], hW', trodAll_mk1 (shut_bool Tryd.underlying4 _), (trodAll_cons_mk (shut_int Tryd.underlying2 w0) (trodAll_cons_mk (shut_int Tryd.underlying2 w1) trodAll_mk0)), rfl, hg.frame _, fun h => by cases h⟩

theorem over : Rows.spanBoundsRow.holds Tryd.pinned (OpenSpec.ofChange Rows.spanBoundsSpec) :=
  OpenClaim.holds_of_wide 7 Tryd.f7 rfl rfl rfl rfl rfl rfl rfl ⟨rfl, rfl, rfl, rfl, rfl⟩ rfl rfl rfl rfl rfl (by kernel_rfl) Tryd.func7 (by kernel_rfl)
    (of_decide_eq_true (by kernel_rfl)) (by unfold Func.isWrapper; first | (rw [if_pos (by decide +kernel)]; kernel_rfl) | (rw [if_neg (by decide +kernel)]; exact ⟨rfl, rfl⟩))
    (fun os started H enc _ => lifted os started H enc)

theorem proved : Rows.SpanBoundsCardSaid :=
  Claim7.holds_tied_plain_at .later [] [.data, .data, .data, .data, .sentinel, .sentinel, .pinned] true (true, "054be8861209e522176649320a7c817964da670eabe6c35eb6f53af7c3428fa2") true over (fun _ h => by cases h) (by kernel_rfl) (fun _ h => by cases h) spanBounds_row_tie rfl ⟨rfl, rfl⟩ (by kernel_rfl) rfl
    (fun f fn hf hfn => by
      obtain rfl : f = 7 := Option.some.inj ((show Tryd.prog.funcNamed "reveille/reveillelaw1.SpanBounds" = some 7 by kernel_rfl).symm.trans hf) |>.symm
      obtain rfl : fn = Tryd.f7 := (Option.some.inj (Tryd.func7.symm.trans hfn)).symm
      exact ⟨by kernel_rfl, fun j t ht => by
        rw [Tryd.params7] at ht
        have hm : t ∈ [2] := by
          have := Array.mem_of_getElem? ht
          simp at this
          first | (subst this; simp; done) | (rcases this with rfl | rfl <;> simp; done) | (rcases this with rfl | rfl | rfl <;> simp; done) | (rcases this with rfl | rfl | rfl | rfl <;> simp; done)
        have hall : ([2].all fun u => !Tryd.prog.wantsStandIn u) = true := by kernel_rfl
        exact (show Tryd.prog.wantsStandIn t = false by simpa using List.all_eq_true.1 hall t hm)⟩)
    (by kernel_rfl)
#print axioms proved
end Go.Proofs.YtfpfdeechhaheaaDoor.spanBounds
