/- The statement 'TriggerSockets' holds of the given program: whatever the input, the law's function returns true. The package-level variables that its row lists read as the program's text lays them. -/
import Derived.Test.YtefajjeaakfbfaaGreatDoorRows
import Derived.Test.YtefajjeaakfbfaaGreatDoorTie
import Derived.Test.YtefajjeaakfbfaaGreatDoorCards
import Derived.LaidMore
import Derived.Lay
import Derived.SevenTiedAt
import Derived.Stop.Joined
import Derived.WalkKit
import Derived.ProofKit
import Derived.OpenShut
import Derived.ShutString
import Derived.Test.YtefajjeaakfbfaaGreatDoorEv5
import Derived.Test.YtefajjeaakfbfaaGreatDoorSocketsK0
import Derived.Test.YtefajjeaakfbfaaGreatDoorSocketsK1
import Derived.Test.YtefajjeaakfbfaaGreatDoorSocketsK2
import Derived.Test.YtefajjeaakfbfaaGreatDoorSocketsK3
import Derived.Test.YtefajjeaakfbfaaGreatDoorSocketsK4
import Derived.Test.YtefajjeaakfbfaaGreatDoorSocketsK5
import Derived.Test.YtefajjeaakfbfaaGreatDoorSocketsK6
import Derived.Test.YtefajjeaakfbfaaGreatDoorSocketsK7
import Derived.Test.YtefajjeaakfbfaaGreatDoorSocketsK8
import Derived.Test.YtefajjeaakfbfaaGreatDoorSocketsK9
import Derived.Test.YtefajjeaakfbfaaGreatDoorSocketsK10
import Derived.Test.YtefajjeaakfbfaaGreatDoorSocketsK11
import Derived.Test.YtefajjeaakfbfaaGreatDoorSocketsK12
import Derived.Test.YtefajjeaakfbfaaGreatDoorSocketsK13
import Derived.Test.YtefajjeaakfbfaaGreatDoorSocketsK14
import Derived.Test.YtefajjeaakfbfaaGreatDoorSocketsK15
import Derived.Test.YtefajjeaakfbfaaGreatDoorSocketsK16
import Derived.Test.YtefajjeaakfbfaaGreatDoorSocketsK17
import Derived.Test.YtefajjeaakfbfaaGreatDoorSocketsK18
import Derived.Test.YtefajjeaakfbfaaGreatDoorSocketsK19
namespace Go.Proofs.YtefajjeaakfbfaaGreatDoor.triggerSockets
open Go.Ev
open Go.ChangeShapes Go.WideShapes Go.ChangeAt Go.RowKit
open Go.ChangeMaps (open_string shut_string)
set_option linter.unusedVariables false      -- a walk need not use every 'w<i>' (that an integer argument fits its kind)

theorem own : ownKnob Tryz.prog.godebug = none := by kernel_rfl

set_option maxHeartbeats 20000000 in
theorem walk (a0 : Int) (a1 : Bool) (w0 : (Lit.int .u8 a0).wf = true) (w : World) (hs : w.ShapedOpen Tryz.prog) :
    Calls Tryz.prog 4 #[.int .u8 a0, .bool a1] w fun e w' => e = .returned (.bool true) ∧ Below w.heap.size w w' := by
  have hmix : Tryz.prog.follows .mixedOrders = true := Tryz.checked.mixed
  obtain ⟨n0, rfl⟩ : ∃ n : Nat, a0 = n := ⟨a0.toNat, by
    have := w0
    simp [Lit.wf, IntKind.min, IntKind.max, IntKind.signed, IntKind.bits] at this
    omega⟩
  have hb0 : 0 ≤ (n0 : Int) ∧ (n0 : Int) ≤ 255 := by
    have := w0
    simp [Lit.wf, IntKind.min, IntKind.max, IntKind.signed, IntKind.bits] at this
    omega
  have key : ∀ (F : Facts) (E : @Env F) (l : List AV), @SumsOK F E Tryz.prog → (∀ μ, @VRs F E μ l [.int .u8 (n0 : Int), .bool a1]) → isTrue (@Ev.run F Tryz.prog 100000 4 l) = true →
      Calls Tryz.prog 4 #[.int .u8 (n0 : Int), .bool a1] w fun e w' => e = .returned (.bool true) ∧ Below w.heap.size w w' := fun F E l hS hv h =>
    run_calls (F := F) (E := E) hS hmix (shaped_size hs) (enter_of Tryz.func4 (by kernel_rfl) (by kernel_rfl)) hv h
  have ho0 : n0 % 30 = 0 ∨ n0 % 30 = 1 ∨ n0 % 30 = 2 ∨ n0 % 30 = 3 ∨ n0 % 30 = 4 ∨ n0 % 30 = 5 ∨ n0 % 30 = 6 ∨ n0 % 30 = 7 ∨ n0 % 30 = 8 ∨ n0 % 30 = 9 ∨ n0 % 30 = 10 ∨ n0 % 30 = 11 ∨ n0 % 30 = 12 ∨ n0 % 30 = 13 ∨ n0 % 30 = 14 ∨ n0 % 30 = 15 ∨ n0 % 30 = 16 ∨ n0 % 30 = 17 ∨ n0 % 30 = 18 ∨ n0 % 30 = 19 ∨ n0 % 30 = 20 ∨ n0 % 30 = 21 ∨ n0 % 30 = 22 ∨ n0 % 30 = 23 ∨ n0 % 30 = 24 ∨ n0 % 30 = 25 ∨ n0 % 30 = 26 ∨ n0 % 30 = 27 ∨ n0 % 30 = 28 ∨ n0 % 30 = 29 := by omega
  rcases ho0 with h0 | h0 | h0 | h0 | h0 | h0 | h0 | h0 | h0 | h0 | h0 | h0 | h0 | h0 | h0 | h0 | h0 | h0 | h0 | h0 | h0 | h0 | h0 | h0 | h0 | h0 | h0 | h0 | h0 | h0
  · cases a1
    · obtain ⟨E, hE⟩ := envOf [] [] noSum [] (.nil) (by intro e he; simp at he)
      exact key _ E _ noSums (fun μ => by letI : Facts := ⟨[], [], noSum⟩; letI : Env := E; exact .cons (.res .u8 h0) (.cons (.bool false) .nil)) k0_f
    · obtain ⟨E, hE⟩ := envOf [] [] noSum [] (.nil) (by intro e he; simp at he)
      exact key _ E _ noSums (fun μ => by letI : Facts := ⟨[], [], noSum⟩; letI : Env := E; exact .cons (.res .u8 h0) (.cons (.bool true) .nil)) k0_t
  · cases a1
    · obtain ⟨E, hE⟩ := envOf [] [] noSum [] (.nil) (by intro e he; simp at he)
      exact key _ E _ noSums (fun μ => by letI : Facts := ⟨[], [], noSum⟩; letI : Env := E; exact .cons (.res .u8 h0) (.cons (.bool false) .nil)) k1_f
    · obtain ⟨E, hE⟩ := envOf [] [] noSum [] (.nil) (by intro e he; simp at he)
      exact key _ E _ noSums (fun μ => by letI : Facts := ⟨[], [], noSum⟩; letI : Env := E; exact .cons (.res .u8 h0) (.cons (.bool true) .nil)) k1_t
  · cases a1
    · obtain ⟨E, hE⟩ := envOf [] [] noSum [] (.nil) (by intro e he; simp at he)
      exact key _ E _ noSums (fun μ => by letI : Facts := ⟨[], [], noSum⟩; letI : Env := E; exact .cons (.res .u8 h0) (.cons (.bool false) .nil)) k2_f
    · obtain ⟨E, hE⟩ := envOf [] [] noSum [] (.nil) (by intro e he; simp at he)
      exact key _ E _ noSums (fun μ => by letI : Facts := ⟨[], [], noSum⟩; letI : Env := E; exact .cons (.res .u8 h0) (.cons (.bool true) .nil)) k2_t
  · cases a1
    · obtain ⟨E, hE⟩ := envOf [] [] noSum [] (.nil) (by intro e he; simp at he)
      exact key _ E _ noSums (fun μ => by letI : Facts := ⟨[], [], noSum⟩; letI : Env := E; exact .cons (.res .u8 h0) (.cons (.bool false) .nil)) k3_f
    · obtain ⟨E, hE⟩ := envOf [] [] noSum [] (.nil) (by intro e he; simp at he)
      exact key _ E _ noSums (fun μ => by letI : Facts := ⟨[], [], noSum⟩; letI : Env := E; exact .cons (.res .u8 h0) (.cons (.bool true) .nil)) k3_t
  · cases a1
    · obtain ⟨E, hE⟩ := envOf [] [] noSum [] (.nil) (by intro e he; simp at he)
      exact key _ E _ noSums (fun μ => by letI : Facts := ⟨[], [], noSum⟩; letI : Env := E; exact .cons (.res .u8 h0) (.cons (.bool false) .nil)) k4_f
    · obtain ⟨E, hE⟩ := envOf [] [] noSum [] (.nil) (by intro e he; simp at he)
      exact key _ E _ noSums (fun μ => by letI : Facts := ⟨[], [], noSum⟩; letI : Env := E; exact .cons (.res .u8 h0) (.cons (.bool true) .nil)) k4_t
  · cases a1
    · obtain ⟨E, hE⟩ := envOf [] [] noSum [] (.nil) (by intro e he; simp at he)
      exact key _ E _ noSums (fun μ => by letI : Facts := ⟨[], [], noSum⟩; letI : Env := E; exact .cons (.res .u8 h0) (.cons (.bool false) .nil)) k5_f
    · obtain ⟨E, hE⟩ := envOf [] [] noSum [] (.nil) (by intro e he; simp at he)
      exact key _ E _ noSums (fun μ => by letI : Facts := ⟨[], [], noSum⟩; letI : Env := E; exact .cons (.res .u8 h0) (.cons (.bool true) .nil)) k5_t
  · cases a1
    · obtain ⟨E, hE⟩ := envOf [] [] noSum [] (.nil) (by intro e he; simp at he)
      exact key _ E _ noSums (fun μ => by letI : Facts := ⟨[], [], noSum⟩; letI : Env := E; exact .cons (.res .u8 h0) (.cons (.bool false) .nil)) k6_f
    · obtain ⟨E, hE⟩ := envOf [] [] noSum [] (.nil) (by intro e he; simp at he)
      exact key _ E _ noSums (fun μ => by letI : Facts := ⟨[], [], noSum⟩; letI : Env := E; exact .cons (.res .u8 h0) (.cons (.bool true) .nil)) k6_t
  · cases a1
    · obtain ⟨E, hE⟩ := envOf [] [] noSum [] (.nil) (by intro e he; simp at he)
      exact key _ E _ noSums (fun μ => by letI : Facts := ⟨[], [], noSum⟩; letI : Env := E; exact .cons (.res .u8 h0) (.cons (.bool false) .nil)) k7_f
    · obtain ⟨E, hE⟩ := envOf [] [] noSum [] (.nil) (by intro e he; simp at he)
      exact key _ E _ noSums (fun μ => by letI : Facts := ⟨[], [], noSum⟩; letI : Env := E; exact .cons (.res .u8 h0) (.cons (.bool true) .nil)) k7_t
  · cases a1
    · obtain ⟨E, hE⟩ := envOf [] [] noSum [] (.nil) (by intro e he; simp at he)
      exact key _ E _ noSums (fun μ => by letI : Facts := ⟨[], [], noSum⟩; letI : Env := E; exact .cons (.res .u8 h0) (.cons (.bool false) .nil)) k8_f
    · obtain ⟨E, hE⟩ := envOf [] [] noSum [] (.nil) (by intro e he; simp at he)
      exact key _ E _ noSums (fun μ => by letI : Facts := ⟨[], [], noSum⟩; letI : Env := E; exact .cons (.res .u8 h0) (.cons (.bool true) .nil)) k8_t
  · cases a1
    · obtain ⟨E, hE⟩ := envOf [] [] noSum [] (.nil) (by intro e he; simp at he)
      exact key _ E _ noSums (fun μ => by letI : Facts := ⟨[], [], noSum⟩; letI : Env := E; exact .cons (.res .u8 h0) (.cons (.bool false) .nil)) k9_f
    · obtain ⟨E, hE⟩ := envOf [] [] noSum [] (.nil) (by intro e he; simp at he)
      exact key _ E _ noSums (fun μ => by letI : Facts := ⟨[], [], noSum⟩; letI : Env := E; exact .cons (.res .u8 h0) (.cons (.bool true) .nil)) k9_t
  · cases a1
    · obtain ⟨E, hE⟩ := envOf [] [] noSum [] (.nil) (by intro e he; simp at he)
      exact key _ E _ noSums (fun μ => by letI : Facts := ⟨[], [], noSum⟩; letI : Env := E; exact .cons (.res .u8 h0) (.cons (.bool false) .nil)) k10_f
    · obtain ⟨E, hE⟩ := envOf [] [] noSum [] (.nil) (by intro e he; simp at he)
      exact key _ E _ noSums (fun μ => by letI : Facts := ⟨[], [], noSum⟩; letI : Env := E; exact .cons (.res .u8 h0) (.cons (.bool true) .nil)) k10_t
  · cases a1
    · obtain ⟨E, hE⟩ := envOf [] [] noSum [] (.nil) (by intro e he; simp at he)
      exact key _ E _ noSums (fun μ => by letI : Facts := ⟨[], [], noSum⟩; letI : Env := E; exact .cons (.res .u8 h0) (.cons (.bool false) .nil)) k11_f
    · obtain ⟨E, hE⟩ := envOf [] [] noSum [] (.nil) (by intro e he; simp at he)
      exact key _ E _ noSums (fun μ => by letI : Facts := ⟨[], [], noSum⟩; letI : Env := E; exact .cons (.res .u8 h0) (.cons (.bool true) .nil)) k11_t
  · cases a1
    · obtain ⟨E, hE⟩ := envOf [] [] noSum [] (.nil) (by intro e he; simp at he)
      exact key _ E _ noSums (fun μ => by letI : Facts := ⟨[], [], noSum⟩; letI : Env := E; exact .cons (.res .u8 h0) (.cons (.bool false) .nil)) k12_f
    · obtain ⟨E, hE⟩ := envOf [] [] noSum [] (.nil) (by intro e he; simp at he)
      exact key _ E _ noSums (fun μ => by letI : Facts := ⟨[], [], noSum⟩; letI : Env := E; exact .cons (.res .u8 h0) (.cons (.bool true) .nil)) k12_t
  · cases a1
    · obtain ⟨E, hE⟩ := envOf [] [] noSum [] (.nil) (by intro e he; simp at he)
      exact key _ E _ noSums (fun μ => by letI : Facts := ⟨[], [], noSum⟩; letI : Env := E; exact .cons (.res .u8 h0) (.cons (.bool false) .nil)) k13_f
    · obtain ⟨E, hE⟩ := envOf [] [] noSum [] (.nil) (by intro e he; simp at he)
      exact key _ E _ noSums (fun μ => by letI : Facts := ⟨[], [], noSum⟩; letI : Env := E; exact .cons (.res .u8 h0) (.cons (.bool true) .nil)) k13_t
  · cases a1
    · obtain ⟨E, hE⟩ := envOf [] [] noSum [] (.nil) (by intro e he; simp at he)
      exact key _ E _ noSums (fun μ => by letI : Facts := ⟨[], [], noSum⟩; letI : Env := E; exact .cons (.res .u8 h0) (.cons (.bool false) .nil)) k14_f
    · obtain ⟨E, hE⟩ := envOf [] [] noSum [] (.nil) (by intro e he; simp at he)
      exact key _ E _ noSums (fun μ => by letI : Facts := ⟨[], [], noSum⟩; letI : Env := E; exact .cons (.res .u8 h0) (.cons (.bool true) .nil)) k14_t
  · cases a1
    · obtain ⟨E, hE⟩ := envOf [] [] noSum [] (.nil) (by intro e he; simp at he)
      exact key _ E _ noSums (fun μ => by letI : Facts := ⟨[], [], noSum⟩; letI : Env := E; exact .cons (.res .u8 h0) (.cons (.bool false) .nil)) k15_f
    · obtain ⟨E, hE⟩ := envOf [] [] noSum [] (.nil) (by intro e he; simp at he)
      exact key _ E _ noSums (fun μ => by letI : Facts := ⟨[], [], noSum⟩; letI : Env := E; exact .cons (.res .u8 h0) (.cons (.bool true) .nil)) k15_t
  · cases a1
    · obtain ⟨E, hE⟩ := envOf [] [] noSum [] (.nil) (by intro e he; simp at he)
      exact key _ E _ noSums (fun μ => by letI : Facts := ⟨[], [], noSum⟩; letI : Env := E; exact .cons (.res .u8 h0) (.cons (.bool false) .nil)) k16_f
    · obtain ⟨E, hE⟩ := envOf [] [] noSum [] (.nil) (by intro e he; simp at he)
      exact key _ E _ noSums (fun μ => by letI : Facts := ⟨[], [], noSum⟩; letI : Env := E; exact .cons (.res .u8 h0) (.cons (.bool true) .nil)) k16_t
  · cases a1
    · obtain ⟨E, hE⟩ := envOf [] [] noSum [] (.nil) (by intro e he; simp at he)
      exact key _ E _ noSums (fun μ => by letI : Facts := ⟨[], [], noSum⟩; letI : Env := E; exact .cons (.res .u8 h0) (.cons (.bool false) .nil)) k17_f
    · obtain ⟨E, hE⟩ := envOf [] [] noSum [] (.nil) (by intro e he; simp at he)
      exact key _ E _ noSums (fun μ => by letI : Facts := ⟨[], [], noSum⟩; letI : Env := E; exact .cons (.res .u8 h0) (.cons (.bool true) .nil)) k17_t
  · cases a1
    · obtain ⟨E, hE⟩ := envOf [] [] noSum [] (.nil) (by intro e he; simp at he)
      exact key _ E _ noSums (fun μ => by letI : Facts := ⟨[], [], noSum⟩; letI : Env := E; exact .cons (.res .u8 h0) (.cons (.bool false) .nil)) k18_f
    · obtain ⟨E, hE⟩ := envOf [] [] noSum [] (.nil) (by intro e he; simp at he)
      exact key _ E _ noSums (fun μ => by letI : Facts := ⟨[], [], noSum⟩; letI : Env := E; exact .cons (.res .u8 h0) (.cons (.bool true) .nil)) k18_t
  · cases a1
    · obtain ⟨E, hE⟩ := envOf [] [] noSum [] (.nil) (by intro e he; simp at he)
      exact key _ E _ noSums (fun μ => by letI : Facts := ⟨[], [], noSum⟩; letI : Env := E; exact .cons (.res .u8 h0) (.cons (.bool false) .nil)) k19_f
    · obtain ⟨E, hE⟩ := envOf [] [] noSum [] (.nil) (by intro e he; simp at he)
      exact key _ E _ noSums (fun μ => by letI : Facts := ⟨[], [], noSum⟩; letI : Env := E; exact .cons (.res .u8 h0) (.cons (.bool true) .nil)) k19_t
  · cases a1
    · obtain ⟨E, hE⟩ := envOf [] [] noSum [] (.nil) (by intro e he; simp at he)
      exact key _ E _ noSums (fun μ => by letI : Facts := ⟨[], [], noSum⟩; letI : Env := E; exact .cons (.res .u8 h0) (.cons (.bool false) .nil)) k20_f
    · obtain ⟨E, hE⟩ := envOf [] [] noSum [] (.nil) (by intro e he; simp at he)
      exact key _ E _ noSums (fun μ => by letI : Facts := ⟨[], [], noSum⟩; letI : Env := E; exact .cons (.res .u8 h0) (.cons (.bool true) .nil)) k20_t
  · cases a1
    · obtain ⟨E, hE⟩ := envOf [] [] noSum [] (.nil) (by intro e he; simp at he)
      exact key _ E _ noSums (fun μ => by letI : Facts := ⟨[], [], noSum⟩; letI : Env := E; exact .cons (.res .u8 h0) (.cons (.bool false) .nil)) k21_f
    · obtain ⟨E, hE⟩ := envOf [] [] noSum [] (.nil) (by intro e he; simp at he)
      exact key _ E _ noSums (fun μ => by letI : Facts := ⟨[], [], noSum⟩; letI : Env := E; exact .cons (.res .u8 h0) (.cons (.bool true) .nil)) k21_t
  · cases a1
    · obtain ⟨E, hE⟩ := envOf [] [] noSum [] (.nil) (by intro e he; simp at he)
      exact key _ E _ noSums (fun μ => by letI : Facts := ⟨[], [], noSum⟩; letI : Env := E; exact .cons (.res .u8 h0) (.cons (.bool false) .nil)) k22_f
    · obtain ⟨E, hE⟩ := envOf [] [] noSum [] (.nil) (by intro e he; simp at he)
      exact key _ E _ noSums (fun μ => by letI : Facts := ⟨[], [], noSum⟩; letI : Env := E; exact .cons (.res .u8 h0) (.cons (.bool true) .nil)) k22_t
  · cases a1
    · obtain ⟨E, hE⟩ := envOf [] [] noSum [] (.nil) (by intro e he; simp at he)
      exact key _ E _ noSums (fun μ => by letI : Facts := ⟨[], [], noSum⟩; letI : Env := E; exact .cons (.res .u8 h0) (.cons (.bool false) .nil)) k23_f
    · obtain ⟨E, hE⟩ := envOf [] [] noSum [] (.nil) (by intro e he; simp at he)
      exact key _ E _ noSums (fun μ => by letI : Facts := ⟨[], [], noSum⟩; letI : Env := E; exact .cons (.res .u8 h0) (.cons (.bool true) .nil)) k23_t
  · cases a1
    · obtain ⟨E, hE⟩ := envOf [] [] noSum [] (.nil) (by intro e he; simp at he)
      exact key _ E _ noSums (fun μ => by letI : Facts := ⟨[], [], noSum⟩; letI : Env := E; exact .cons (.res .u8 h0) (.cons (.bool false) .nil)) k24_f
    · obtain ⟨E, hE⟩ := envOf [] [] noSum [] (.nil) (by intro e he; simp at he)
      exact key _ E _ noSums (fun μ => by letI : Facts := ⟨[], [], noSum⟩; letI : Env := E; exact .cons (.res .u8 h0) (.cons (.bool true) .nil)) k24_t
  · cases a1
    · obtain ⟨E, hE⟩ := envOf [] [] noSum [] (.nil) (by intro e he; simp at he)
      exact key _ E _ noSums (fun μ => by letI : Facts := ⟨[], [], noSum⟩; letI : Env := E; exact .cons (.res .u8 h0) (.cons (.bool false) .nil)) k25_f
    · obtain ⟨E, hE⟩ := envOf [] [] noSum [] (.nil) (by intro e he; simp at he)
      exact key _ E _ noSums (fun μ => by letI : Facts := ⟨[], [], noSum⟩; letI : Env := E; exact .cons (.res .u8 h0) (.cons (.bool true) .nil)) k25_t
  · cases a1
    · obtain ⟨E, hE⟩ := envOf [] [] noSum [] (.nil) (by intro e he; simp at he)
      exact key _ E _ noSums (fun μ => by letI : Facts := ⟨[], [], noSum⟩; letI : Env := E; exact .cons (.res .u8 h0) (.cons (.bool false) .nil)) k26_f
    · obtain ⟨E, hE⟩ := envOf [] [] noSum [] (.nil) (by intro e he; simp at he)
      exact key _ E _ noSums (fun μ => by letI : Facts := ⟨[], [], noSum⟩; letI : Env := E; exact .cons (.res .u8 h0) (.cons (.bool true) .nil)) k26_t
  · cases a1
    · obtain ⟨E, hE⟩ := envOf [] [] noSum [] (.nil) (by intro e he; simp at he)
      exact key _ E _ noSums (fun μ => by letI : Facts := ⟨[], [], noSum⟩; letI : Env := E; exact .cons (.res .u8 h0) (.cons (.bool false) .nil)) k27_f
    · obtain ⟨E, hE⟩ := envOf [] [] noSum [] (.nil) (by intro e he; simp at he)
      exact key _ E _ noSums (fun μ => by letI : Facts := ⟨[], [], noSum⟩; letI : Env := E; exact .cons (.res .u8 h0) (.cons (.bool true) .nil)) k27_t
  · cases a1
    · obtain ⟨E, hE⟩ := envOf [] [] noSum [] (.nil) (by intro e he; simp at he)
      exact key _ E _ noSums (fun μ => by letI : Facts := ⟨[], [], noSum⟩; letI : Env := E; exact .cons (.res .u8 h0) (.cons (.bool false) .nil)) k28_f
    · obtain ⟨E, hE⟩ := envOf [] [] noSum [] (.nil) (by intro e he; simp at he)
      exact key _ E _ noSums (fun μ => by letI : Facts := ⟨[], [], noSum⟩; letI : Env := E; exact .cons (.res .u8 h0) (.cons (.bool true) .nil)) k28_t
  · cases a1
    · obtain ⟨E, hE⟩ := envOf [] [] noSum [] (.nil) (by intro e he; simp at he)
      exact key _ E _ noSums (fun μ => by letI : Facts := ⟨[], [], noSum⟩; letI : Env := E; exact .cons (.res .u8 h0) (.cons (.bool false) .nil)) k29_f
    · obtain ⟨E, hE⟩ := envOf [] [] noSum [] (.nil) (by intro e he; simp at he)
      exact key _ E _ noSums (fun μ => by letI : Facts := ⟨[], [], noSum⟩; letI : Env := E; exact .cons (.res .u8 h0) (.cons (.bool true) .nil)) k29_t

/-! ### THE ROW's STEP: WRITTEN OUT: LEAVE IT -/
set_option maxRecDepth 100000 in
theorem lifted (os : Os) (started : os.Started) (H : Type) (enc : TypeId × Value → H) :
    ReturnsInHanded {} Tryz.checked os 4 .any (fun w args => (Rows.triggerSocketsSpec.pre enc Tryz.prog Tryz.f4 Rows.triggerSocketsRow.domain false w args ∧ laidMetH Tryz.prog Rows.triggerSocketsRow.laid w) ∧ sizedMet enc Tryz.prog Tryz.f4 (OpenSpec.ofChange Rows.triggerSocketsSpec) false w args) (Rows.triggerSocketsSpec.post enc Tryz.prog Tryz.f4 false true false false) := by
  refine of_shaped_and (C := Tryz.checked) (X := fun w _ => laidMetH Tryz.prog Rows.triggerSocketsRow.laid w) (fun _ _ _ hh h => h.of_heap hh) own started (by kernel_rfl) Tryz.func4
    (ChangeSpec.witness_shaped (enc := enc) (C := Tryz.checked) (os := os) (X := fun w _ => laidMetH Tryz.prog Rows.triggerSocketsRow.laid w) false (World.laidAll Tryz.prog os Rows.triggerSocketsRow.laid) #[.int .u8 0, .bool false] 8 (World.laidAll_os _ _ _)
      (World.shaped_of_ZipB (by kernel_rfl) (by kernel_rfl)) (by kernel_rfl) (by kernel_rfl) (by kernel_rfl)
      (by rw [MakeChecks.laidMetH_plain _ _ _ (by kernel_rfl)]; exact laidMet_laidAll _ (by kernel_rfl) (by kernel_rfl))) ?_
  intro W base args ds gs before hshape hval0 hW hL
  have hval : ∀ (j : Nat) t v, Tryz.f4.params[j]? = some t → args[j]? = some v → Value.okWide Tryz.prog W .any base t v := hval0
  have hW' := hW
  obtain ⟨p, q, hA0, hV, rfl, hfz, hnd⟩ := hW
  have hA : DataW.TrodAll enc Tryz.prog W 0 (fun _ => true) true Tryz.f4.params.toList args.toList ds p := hA0
  rw [Tryz.params4] at hA hval
  obtain ⟨v0, vs0, d0, ds0, p0, q0, hargs, rfl, rfl, h0, r0⟩ := trodAll_cons hA
  obtain ⟨v1, vs1, d1, ds1, p1, q1, rfl, rfl, rfl, h1, r1⟩ := trodAll_cons r0
  obtain ⟨rfl, rfl, rfl⟩ := trodAll_nil r1
  obtain rfl : args = #[v0, v1] := by cases args; simp_all
  obtain ⟨rfl, rfl⟩ := trodVars_none hV
  obtain ⟨a0, rfl, rfl, rfl, w0⟩ := open_int Tryz.underlying5 (hval 0 5 v0 rfl rfl) h0
  obtain ⟨a1, rfl, rfl, rfl⟩ := open_bool Tryz.underlying4 (hval 1 4 v1 rfl rfl) h1
  clear hA0 hval0
  simp only [List.append_nil] at hW'
  refine (walk a0 a1 w0 W hshape).mono fun e W' ⟨he, hg⟩ => ?_
  subst he
  exact ⟨_, rfl, _, _, _, [], _, [], hW', trodAll_mk1 (shut_bool Tryz.underlying4 _), (trodAll_cons_mk (shut_int Tryz.underlying5 w0) (trodAll_cons_mk (shut_bool Tryz.underlying4 _) trodAll_mk0)), rfl, hg.frame _, fun h => by cases h⟩

theorem over : Rows.triggerSocketsRow.holds Tryz.pinned (OpenSpec.ofChange Rows.triggerSocketsSpec) :=
  OpenClaim.holds_of_wide 4 Tryz.f4 rfl rfl rfl rfl rfl rfl rfl ⟨rfl, rfl, rfl, rfl, rfl⟩ rfl rfl rfl rfl rfl (by kernel_rfl) Tryz.func4 (by kernel_rfl)
    (of_decide_eq_true (by kernel_rfl)) (by unfold Func.isWrapper; first | (rw [if_pos (by decide +kernel)]; kernel_rfl) | (rw [if_neg (by decide +kernel)]; exact ⟨rfl, rfl⟩))
    (fun os started H enc _ => lifted os started H enc)

theorem proved : Rows.TriggerSocketsCardSaid :=
  Claim7.holds_tied_plain_at .later [] [.data, .data, .data, .data, .sentinel, .sentinel, .wider, .wider, .wider, .wider, .wider, .wider, .pinned] true (true, "75da4ab823b5e8fffe5d285422d492c4b5a412f7197b365a2b26c97816c654a1") true over (fun _ h => by cases h) (by kernel_rfl) (fun _ h => by cases h) triggerSockets_row_tie rfl ⟨rfl, rfl⟩ (by kernel_rfl) rfl
    (fun f fn hf hfn => by
      obtain rfl : f = 4 := Option.some.inj ((show Tryz.prog.funcNamed "reveille/reveillelaw21.TriggerSockets" = some 4 by kernel_rfl).symm.trans hf) |>.symm
      obtain rfl : fn = Tryz.f4 := (Option.some.inj (Tryz.func4.symm.trans hfn)).symm
      exact ⟨by kernel_rfl, fun j t ht => by
        rw [Tryz.params4] at ht
        have hm : t ∈ [4, 5] := by
          have := Array.mem_of_getElem? ht
          simp at this
          first | (subst this; simp; done) | (rcases this with rfl | rfl <;> simp; done) | (rcases this with rfl | rfl | rfl <;> simp; done) | (rcases this with rfl | rfl | rfl | rfl <;> simp; done)
        have hall : ([4, 5].all fun u => !Tryz.prog.wantsStandIn u) = true := by kernel_rfl
        exact (show Tryz.prog.wantsStandIn t = false by simpa using List.all_eq_true.1 hall t hm)⟩)
    (by kernel_rfl)
#print axioms proved
end Go.Proofs.YtefajjeaakfbfaaGreatDoor.triggerSockets
