/- The statement 'TriggerOften' holds of the given program: whatever the input, the law's function returns true. The package-level variables that its row lists read as the program's text lays them. -/
import Derived.Test.YtefajjeaakfbfaaGreatDoorRows
import Derived.Test.YtefajjeaakfbfaaGreatDoorTie
import Derived.Test.YtefajjeaakfbfaaGreatDoorCards
import Derived.LaidMore
import Derived.Lay
import Derived.SevenTiedAt
import Derived.Stop.Joined
import Derived.WalkKit
import Derived.ProofKit
import Derived.OpenShut
import Derived.ShutString
import Derived.Test.YtefajjeaakfbfaaGreatDoorEv5
import Derived.Test.YtefajjeaakfbfaaGreatDoorOftenK0
import Derived.Test.YtefajjeaakfbfaaGreatDoorOftenK1
import Derived.Test.YtefajjeaakfbfaaGreatDoorOftenK2
import Derived.Test.YtefajjeaakfbfaaGreatDoorOftenK3
import Derived.Test.YtefajjeaakfbfaaGreatDoorOftenK4
import Derived.Test.YtefajjeaakfbfaaGreatDoorOftenK5
import Derived.Test.YtefajjeaakfbfaaGreatDoorOftenK6
import Derived.Test.YtefajjeaakfbfaaGreatDoorOftenK7
import Derived.Test.YtefajjeaakfbfaaGreatDoorOftenK8
import Derived.Test.YtefajjeaakfbfaaGreatDoorOftenK9
import Derived.Test.YtefajjeaakfbfaaGreatDoorOftenK10
import Derived.Test.YtefajjeaakfbfaaGreatDoorOftenK11
import Derived.Test.YtefajjeaakfbfaaGreatDoorOftenK12
import Derived.Test.YtefajjeaakfbfaaGreatDoorOftenK13
import Derived.Test.YtefajjeaakfbfaaGreatDoorOftenK14
import Derived.Test.YtefajjeaakfbfaaGreatDoorOftenK15
import Derived.Test.YtefajjeaakfbfaaGreatDoorOftenK16
import Derived.Test.YtefajjeaakfbfaaGreatDoorOftenK17
import Derived.Test.YtefajjeaakfbfaaGreatDoorOftenK18
import Derived.Test.YtefajjeaakfbfaaGreatDoorOftenK19
import Derived.Test.YtefajjeaakfbfaaGreatDoorOftenK20
namespace Go.Proofs.YtefajjeaakfbfaaGreatDoor.triggerOften
open Go.Ev
open Go.ChangeShapes Go.WideShapes Go.ChangeAt Go.RowKit
open Go.ChangeMaps (open_string shut_string)
set_option linter.unusedVariables false      -- a walk need not use every 'w<i>' (that an integer argument fits its kind)

theorem own : ownKnob Tryz.prog.godebug = none := by kernel_rfl

set_option maxHeartbeats 20000000 in
theorem walk (a0 : Int) (a1 : Bool) (w0 : (Lit.int .u8 a0).wf = true) (w : World) (hs : w.ShapedOpen Tryz.prog) :
    Calls Tryz.prog 5 #[.int .u8 a0, .bool a1] w fun e w' => e = .returned (.bool true) ∧ Below w.heap.size w w' := by
  have hmix : Tryz.prog.follows .mixedOrders = true := Tryz.checked.mixed
  obtain ⟨n0, rfl⟩ : ∃ n : Nat, a0 = n := ⟨a0.toNat, by
    have := w0
    simp [Lit.wf, IntKind.min, IntKind.max, IntKind.signed, IntKind.bits] at this
    omega⟩
  have hb0 : 0 ≤ (n0 : Int) ∧ (n0 : Int) ≤ 255 := by
    have := w0
    simp [Lit.wf, IntKind.min, IntKind.max, IntKind.signed, IntKind.bits] at this
    omega
  have key : ∀ (F : Facts) (E : @Env F) (l : List AV), @SumsOK F E Tryz.prog → (∀ μ, @VRs F E μ l [.int .u8 (n0 : Int), .bool a1]) → isTrue (@Ev.run F Tryz.prog 100000 5 l) = true →
      Calls Tryz.prog 5 #[.int .u8 (n0 : Int), .bool a1] w fun e w' => e = .returned (.bool true) ∧ Below w.heap.size w w' := fun F E l hS hv h =>
    run_calls (F := F) (E := E) hS hmix (shaped_size hs) (enter_of Tryz.func5 (by kernel_rfl) (by kernel_rfl)) hv h
  cases a1
  · rcases (by omega : n0 % 40 = 0 ∨ n0 % 40 = 1 ∨ n0 % 40 = 2 ∨ n0 % 40 = 3 ∨ n0 % 40 = 4 ∨ n0 % 40 = 5 ∨ n0 % 40 = 6 ∨ n0 % 40 = 7 ∨ n0 % 40 = 8 ∨ n0 % 40 = 9 ∨ n0 % 40 = 10 ∨ n0 % 40 = 11 ∨ n0 % 40 = 12 ∨ n0 % 40 = 13 ∨ n0 % 40 = 14 ∨ n0 % 40 = 15 ∨ n0 % 40 = 16 ∨ n0 % 40 = 17 ∨ n0 % 40 = 18 ∨ n0 % 40 = 19 ∨ n0 % 40 = 20 ∨ (21 ≤ n0 % 40 ∧ n0 % 40 ≤ 39)) with h0 | h0 | h0 | h0 | h0 | h0 | h0 | h0 | h0 | h0 | h0 | h0 | h0 | h0 | h0 | h0 | h0 | h0 | h0 | h0 | h0 | h0
    · obtain ⟨E, hE⟩ := envOf [] [] noSum [] (.nil) (by intro e he; simp at he)
      exact key _ E _ noSums (fun μ => by letI : Facts := ⟨[], [], noSum⟩; letI : Env := E; exact .cons (.res .u8 h0) (.cons (.bool false) .nil)) k0to0_f
    · obtain ⟨E, hE⟩ := envOf [] [] noSum [] (.nil) (by intro e he; simp at he)
      exact key _ E _ noSums (fun μ => by letI : Facts := ⟨[], [], noSum⟩; letI : Env := E; exact .cons (.res .u8 h0) (.cons (.bool false) .nil)) k1to1_f
    · obtain ⟨E, hE⟩ := envOf [] [] noSum [] (.nil) (by intro e he; simp at he)
      exact key _ E _ noSums (fun μ => by letI : Facts := ⟨[], [], noSum⟩; letI : Env := E; exact .cons (.res .u8 h0) (.cons (.bool false) .nil)) k2to2_f
    · obtain ⟨E, hE⟩ := envOf [] [] noSum [] (.nil) (by intro e he; simp at he)
      exact key _ E _ noSums (fun μ => by letI : Facts := ⟨[], [], noSum⟩; letI : Env := E; exact .cons (.res .u8 h0) (.cons (.bool false) .nil)) k3to3_f
    · obtain ⟨E, hE⟩ := envOf [] [] noSum [] (.nil) (by intro e he; simp at he)
      exact key _ E _ noSums (fun μ => by letI : Facts := ⟨[], [], noSum⟩; letI : Env := E; exact .cons (.res .u8 h0) (.cons (.bool false) .nil)) k4to4_f
    · obtain ⟨E, hE⟩ := envOf [] [] noSum [] (.nil) (by intro e he; simp at he)
      exact key _ E _ noSums (fun μ => by letI : Facts := ⟨[], [], noSum⟩; letI : Env := E; exact .cons (.res .u8 h0) (.cons (.bool false) .nil)) k5to5_f
    · obtain ⟨E, hE⟩ := envOf [] [] noSum [] (.nil) (by intro e he; simp at he)
      exact key _ E _ noSums (fun μ => by letI : Facts := ⟨[], [], noSum⟩; letI : Env := E; exact .cons (.res .u8 h0) (.cons (.bool false) .nil)) k6to6_f
    · obtain ⟨E, hE⟩ := envOf [] [] noSum [] (.nil) (by intro e he; simp at he)
      exact key _ E _ noSums (fun μ => by letI : Facts := ⟨[], [], noSum⟩; letI : Env := E; exact .cons (.res .u8 h0) (.cons (.bool false) .nil)) k7to7_f
    · obtain ⟨E, hE⟩ := envOf [] [] noSum [] (.nil) (by intro e he; simp at he)
      exact key _ E _ noSums (fun μ => by letI : Facts := ⟨[], [], noSum⟩; letI : Env := E; exact .cons (.res .u8 h0) (.cons (.bool false) .nil)) k8to8_f
    · obtain ⟨E, hE⟩ := envOf [] [] noSum [] (.nil) (by intro e he; simp at he)
      exact key _ E _ noSums (fun μ => by letI : Facts := ⟨[], [], noSum⟩; letI : Env := E; exact .cons (.res .u8 h0) (.cons (.bool false) .nil)) k9to9_f
    · obtain ⟨E, hE⟩ := envOf [] [] noSum [] (.nil) (by intro e he; simp at he)
      exact key _ E _ noSums (fun μ => by letI : Facts := ⟨[], [], noSum⟩; letI : Env := E; exact .cons (.res .u8 h0) (.cons (.bool false) .nil)) k10to10_f
    · obtain ⟨E, hE⟩ := envOf [] [] noSum [] (.nil) (by intro e he; simp at he)
      exact key _ E _ noSums (fun μ => by letI : Facts := ⟨[], [], noSum⟩; letI : Env := E; exact .cons (.res .u8 h0) (.cons (.bool false) .nil)) k11to11_f
    · obtain ⟨E, hE⟩ := envOf [] [] noSum [] (.nil) (by intro e he; simp at he)
      exact key _ E _ noSums (fun μ => by letI : Facts := ⟨[], [], noSum⟩; letI : Env := E; exact .cons (.res .u8 h0) (.cons (.bool false) .nil)) k12to12_f
    · obtain ⟨E, hE⟩ := envOf [] [] noSum [] (.nil) (by intro e he; simp at he)
      exact key _ E _ noSums (fun μ => by letI : Facts := ⟨[], [], noSum⟩; letI : Env := E; exact .cons (.res .u8 h0) (.cons (.bool false) .nil)) k13to13_f
    · obtain ⟨E, hE⟩ := envOf [] [] noSum [] (.nil) (by intro e he; simp at he)
      exact key _ E _ noSums (fun μ => by letI : Facts := ⟨[], [], noSum⟩; letI : Env := E; exact .cons (.res .u8 h0) (.cons (.bool false) .nil)) k14to14_f
    · obtain ⟨E, hE⟩ := envOf [] [] noSum [] (.nil) (by intro e he; simp at he)
      exact key _ E _ noSums (fun μ => by letI : Facts := ⟨[], [], noSum⟩; letI : Env := E; exact .cons (.res .u8 h0) (.cons (.bool false) .nil)) k15to15_f
    · obtain ⟨E, hE⟩ := envOf [] [] noSum [] (.nil) (by intro e he; simp at he)
      exact key _ E _ noSums (fun μ => by letI : Facts := ⟨[], [], noSum⟩; letI : Env := E; exact .cons (.res .u8 h0) (.cons (.bool false) .nil)) k16to16_f
    · obtain ⟨E, hE⟩ := envOf [] [] noSum [] (.nil) (by intro e he; simp at he)
      exact key _ E _ noSums (fun μ => by letI : Facts := ⟨[], [], noSum⟩; letI : Env := E; exact .cons (.res .u8 h0) (.cons (.bool false) .nil)) k17to17_f
    · obtain ⟨E, hE⟩ := envOf [] [] noSum [] (.nil) (by intro e he; simp at he)
      exact key _ E _ noSums (fun μ => by letI : Facts := ⟨[], [], noSum⟩; letI : Env := E; exact .cons (.res .u8 h0) (.cons (.bool false) .nil)) k18to18_f
    · obtain ⟨E, hE⟩ := envOf [] [] noSum [] (.nil) (by intro e he; simp at he)
      exact key _ E _ noSums (fun μ => by letI : Facts := ⟨[], [], noSum⟩; letI : Env := E; exact .cons (.res .u8 h0) (.cons (.bool false) .nil)) k19to19_f
    · obtain ⟨E, hE⟩ := envOf [] [] noSum [] (.nil) (by intro e he; simp at he)
      exact key _ E _ noSums (fun μ => by letI : Facts := ⟨[], [], noSum⟩; letI : Env := E; exact .cons (.res .u8 h0) (.cons (.bool false) .nil)) k20to20_f
    · obtain ⟨E, hE⟩ := envOf [(21, 39), (0, 6)] [] noSum [(n0 : Int) % 40, (n0 : Int) / 40] (.cons (⟨by omega, by omega⟩) (.cons (⟨by omega, by omega⟩) .nil)) (by intro e he; simp at he)
      exact key _ E _ noSums (fun μ => by letI : Facts := ⟨[(21, 39), (0, 6)], [], noSum⟩; letI : Env := E; exact .cons (.sym .u8 (by rw [hE]; simp; omega)) (.cons (.bool false) .nil)) k21to39_f
  · rcases (by omega : n0 % 40 = 0 ∨ n0 % 40 = 1 ∨ n0 % 40 = 2 ∨ n0 % 40 = 3 ∨ n0 % 40 = 4 ∨ n0 % 40 = 5 ∨ n0 % 40 = 6 ∨ n0 % 40 = 7 ∨ n0 % 40 = 8 ∨ n0 % 40 = 9 ∨ n0 % 40 = 10 ∨ n0 % 40 = 11 ∨ n0 % 40 = 12 ∨ n0 % 40 = 13 ∨ n0 % 40 = 14 ∨ n0 % 40 = 15 ∨ n0 % 40 = 16 ∨ n0 % 40 = 17 ∨ n0 % 40 = 18 ∨ n0 % 40 = 19 ∨ n0 % 40 = 20 ∨ n0 % 40 = 21 ∨ n0 % 40 = 22 ∨ n0 % 40 = 23 ∨ n0 % 40 = 24 ∨ n0 % 40 = 25 ∨ n0 % 40 = 26 ∨ n0 % 40 = 27 ∨ n0 % 40 = 28 ∨ n0 % 40 = 29 ∨ n0 % 40 = 30 ∨ n0 % 40 = 31 ∨ n0 % 40 = 32 ∨ n0 % 40 = 33 ∨ n0 % 40 = 34 ∨ n0 % 40 = 35 ∨ n0 % 40 = 36 ∨ n0 % 40 = 37 ∨ n0 % 40 = 38 ∨ n0 % 40 = 39) with h0 | h0 | h0 | h0 | h0 | h0 | h0 | h0 | h0 | h0 | h0 | h0 | h0 | h0 | h0 | h0 | h0 | h0 | h0 | h0 | h0 | h0 | h0 | h0 | h0 | h0 | h0 | h0 | h0 | h0 | h0 | h0 | h0 | h0 | h0 | h0 | h0 | h0 | h0 | h0
    · obtain ⟨E, hE⟩ := envOf [] [] noSum [] (.nil) (by intro e he; simp at he)
      exact key _ E _ noSums (fun μ => by letI : Facts := ⟨[], [], noSum⟩; letI : Env := E; exact .cons (.res .u8 h0) (.cons (.bool true) .nil)) k0to0_t
    · obtain ⟨E, hE⟩ := envOf [] [] noSum [] (.nil) (by intro e he; simp at he)
      exact key _ E _ noSums (fun μ => by letI : Facts := ⟨[], [], noSum⟩; letI : Env := E; exact .cons (.res .u8 h0) (.cons (.bool true) .nil)) k1to1_t
    · obtain ⟨E, hE⟩ := envOf [] [] noSum [] (.nil) (by intro e he; simp at he)
      exact key _ E _ noSums (fun μ => by letI : Facts := ⟨[], [], noSum⟩; letI : Env := E; exact .cons (.res .u8 h0) (.cons (.bool true) .nil)) k2to2_t
    · obtain ⟨E, hE⟩ := envOf [] [] noSum [] (.nil) (by intro e he; simp at he)
      exact key _ E _ noSums (fun μ => by letI : Facts := ⟨[], [], noSum⟩; letI : Env := E; exact .cons (.res .u8 h0) (.cons (.bool true) .nil)) k3to3_t
    · obtain ⟨E, hE⟩ := envOf [] [] noSum [] (.nil) (by intro e he; simp at he)
      exact key _ E _ noSums (fun μ => by letI : Facts := ⟨[], [], noSum⟩; letI : Env := E; exact .cons (.res .u8 h0) (.cons (.bool true) .nil)) k4to4_t
    · obtain ⟨E, hE⟩ := envOf [] [] noSum [] (.nil) (by intro e he; simp at he)
      exact key _ E _ noSums (fun μ => by letI : Facts := ⟨[], [], noSum⟩; letI : Env := E; exact .cons (.res .u8 h0) (.cons (.bool true) .nil)) k5to5_t
    · obtain ⟨E, hE⟩ := envOf [] [] noSum [] (.nil) (by intro e he; simp at he)
      exact key _ E _ noSums (fun μ => by letI : Facts := ⟨[], [], noSum⟩; letI : Env := E; exact .cons (.res .u8 h0) (.cons (.bool true) .nil)) k6to6_t
    · obtain ⟨E, hE⟩ := envOf [] [] noSum [] (.nil) (by intro e he; simp at he)
      exact key _ E _ noSums (fun μ => by letI : Facts := ⟨[], [], noSum⟩; letI : Env := E; exact .cons (.res .u8 h0) (.cons (.bool true) .nil)) k7to7_t
    · obtain ⟨E, hE⟩ := envOf [] [] noSum [] (.nil) (by intro e he; simp at he)
      exact key _ E _ noSums (fun μ => by letI : Facts := ⟨[], [], noSum⟩; letI : Env := E; exact .cons (.res .u8 h0) (.cons (.bool true) .nil)) k8to8_t
    · obtain ⟨E, hE⟩ := envOf [] [] noSum [] (.nil) (by intro e he; simp at he)
      exact key _ E _ noSums (fun μ => by letI : Facts := ⟨[], [], noSum⟩; letI : Env := E; exact .cons (.res .u8 h0) (.cons (.bool true) .nil)) k9to9_t
    · obtain ⟨E, hE⟩ := envOf [] [] noSum [] (.nil) (by intro e he; simp at he)
      exact key _ E _ noSums (fun μ => by letI : Facts := ⟨[], [], noSum⟩; letI : Env := E; exact .cons (.res .u8 h0) (.cons (.bool true) .nil)) k10to10_t
    · obtain ⟨E, hE⟩ := envOf [] [] noSum [] (.nil) (by intro e he; simp at he)
      exact key _ E _ noSums (fun μ => by letI : Facts := ⟨[], [], noSum⟩; letI : Env := E; exact .cons (.res .u8 h0) (.cons (.bool true) .nil)) k11to11_t
    · obtain ⟨E, hE⟩ := envOf [] [] noSum [] (.nil) (by intro e he; simp at he)
      exact key _ E _ noSums (fun μ => by letI : Facts := ⟨[], [], noSum⟩; letI : Env := E; exact .cons (.res .u8 h0) (.cons (.bool true) .nil)) k12to12_t
    · obtain ⟨E, hE⟩ := envOf [] [] noSum [] (.nil) (by intro e he; simp at he)
      exact key _ E _ noSums (fun μ => by letI : Facts := ⟨[], [], noSum⟩; letI : Env := E; exact .cons (.res .u8 h0) (.cons (.bool true) .nil)) k13to13_t
    · obtain ⟨E, hE⟩ := envOf [] [] noSum [] (.nil) (by intro e he; simp at he)
      exact key _ E _ noSums (fun μ => by letI : Facts := ⟨[], [], noSum⟩; letI : Env := E; exact .cons (.res .u8 h0) (.cons (.bool true) .nil)) k14to14_t
    · obtain ⟨E, hE⟩ := envOf [] [] noSum [] (.nil) (by intro e he; simp at he)
      exact key _ E _ noSums (fun μ => by letI : Facts := ⟨[], [], noSum⟩; letI : Env := E; exact .cons (.res .u8 h0) (.cons (.bool true) .nil)) k15to15_t
    · obtain ⟨E, hE⟩ := envOf [] [] noSum [] (.nil) (by intro e he; simp at he)
      exact key _ E _ noSums (fun μ => by letI : Facts := ⟨[], [], noSum⟩; letI : Env := E; exact .cons (.res .u8 h0) (.cons (.bool true) .nil)) k16to16_t
    · obtain ⟨E, hE⟩ := envOf [] [] noSum [] (.nil) (by intro e he; simp at he)
      exact key _ E _ noSums (fun μ => by letI : Facts := ⟨[], [], noSum⟩; letI : Env := E; exact .cons (.res .u8 h0) (.cons (.bool true) .nil)) k17to17_t
    · obtain ⟨E, hE⟩ := envOf [] [] noSum [] (.nil) (by intro e he; simp at he)
      exact key _ E _ noSums (fun μ => by letI : Facts := ⟨[], [], noSum⟩; letI : Env := E; exact .cons (.res .u8 h0) (.cons (.bool true) .nil)) k18to18_t
    · obtain ⟨E, hE⟩ := envOf [] [] noSum [] (.nil) (by intro e he; simp at he)
      exact key _ E _ noSums (fun μ => by letI : Facts := ⟨[], [], noSum⟩; letI : Env := E; exact .cons (.res .u8 h0) (.cons (.bool true) .nil)) k19to19_t
    · obtain ⟨E, hE⟩ := envOf [] [] noSum [] (.nil) (by intro e he; simp at he)
      exact key _ E _ noSums (fun μ => by letI : Facts := ⟨[], [], noSum⟩; letI : Env := E; exact .cons (.res .u8 h0) (.cons (.bool true) .nil)) k20to20_t
    · obtain ⟨E, hE⟩ := envOf [] [] noSum [] (.nil) (by intro e he; simp at he)
      exact key _ E _ noSums (fun μ => by letI : Facts := ⟨[], [], noSum⟩; letI : Env := E; exact .cons (.res .u8 h0) (.cons (.bool true) .nil)) k21to21_t
    · obtain ⟨E, hE⟩ := envOf [] [] noSum [] (.nil) (by intro e he; simp at he)
      exact key _ E _ noSums (fun μ => by letI : Facts := ⟨[], [], noSum⟩; letI : Env := E; exact .cons (.res .u8 h0) (.cons (.bool true) .nil)) k22to22_t
    · obtain ⟨E, hE⟩ := envOf [] [] noSum [] (.nil) (by intro e he; simp at he)
      exact key _ E _ noSums (fun μ => by letI : Facts := ⟨[], [], noSum⟩; letI : Env := E; exact .cons (.res .u8 h0) (.cons (.bool true) .nil)) k23to23_t
    · obtain ⟨E, hE⟩ := envOf [] [] noSum [] (.nil) (by intro e he; simp at he)
      exact key _ E _ noSums (fun μ => by letI : Facts := ⟨[], [], noSum⟩; letI : Env := E; exact .cons (.res .u8 h0) (.cons (.bool true) .nil)) k24to24_t
    · obtain ⟨E, hE⟩ := envOf [] [] noSum [] (.nil) (by intro e he; simp at he)
      exact key _ E _ noSums (fun μ => by letI : Facts := ⟨[], [], noSum⟩; letI : Env := E; exact .cons (.res .u8 h0) (.cons (.bool true) .nil)) k25to25_t
    · obtain ⟨E, hE⟩ := envOf [] [] noSum [] (.nil) (by intro e he; simp at he)
      exact key _ E _ noSums (fun μ => by letI : Facts := ⟨[], [], noSum⟩; letI : Env := E; exact .cons (.res .u8 h0) (.cons (.bool true) .nil)) k26to26_t
    · obtain ⟨E, hE⟩ := envOf [] [] noSum [] (.nil) (by intro e he; simp at he)
      exact key _ E _ noSums (fun μ => by letI : Facts := ⟨[], [], noSum⟩; letI : Env := E; exact .cons (.res .u8 h0) (.cons (.bool true) .nil)) k27to27_t
    · obtain ⟨E, hE⟩ := envOf [] [] noSum [] (.nil) (by intro e he; simp at he)
      exact key _ E _ noSums (fun μ => by letI : Facts := ⟨[], [], noSum⟩; letI : Env := E; exact .cons (.res .u8 h0) (.cons (.bool true) .nil)) k28to28_t
    · obtain ⟨E, hE⟩ := envOf [] [] noSum [] (.nil) (by intro e he; simp at he)
      exact key _ E _ noSums (fun μ => by letI : Facts := ⟨[], [], noSum⟩; letI : Env := E; exact .cons (.res .u8 h0) (.cons (.bool true) .nil)) k29to29_t
    · obtain ⟨E, hE⟩ := envOf [] [] noSum [] (.nil) (by intro e he; simp at he)
      exact key _ E _ noSums (fun μ => by letI : Facts := ⟨[], [], noSum⟩; letI : Env := E; exact .cons (.res .u8 h0) (.cons (.bool true) .nil)) k30to30_t
    · obtain ⟨E, hE⟩ := envOf [] [] noSum [] (.nil) (by intro e he; simp at he)
      exact key _ E _ noSums (fun μ => by letI : Facts := ⟨[], [], noSum⟩; letI : Env := E; exact .cons (.res .u8 h0) (.cons (.bool true) .nil)) k31to31_t
    · obtain ⟨E, hE⟩ := envOf [] [] noSum [] (.nil) (by intro e he; simp at he)
      exact key _ E _ noSums (fun μ => by letI : Facts := ⟨[], [], noSum⟩; letI : Env := E; exact .cons (.res .u8 h0) (.cons (.bool true) .nil)) k32to32_t
    · obtain ⟨E, hE⟩ := envOf [] [] noSum [] (.nil) (by intro e he; simp at he)
      exact key _ E _ noSums (fun μ => by letI : Facts := ⟨[], [], noSum⟩; letI : Env := E; exact .cons (.res .u8 h0) (.cons (.bool true) .nil)) k33to33_t
    · obtain ⟨E, hE⟩ := envOf [] [] noSum [] (.nil) (by intro e he; simp at he)
      exact key _ E _ noSums (fun μ => by letI : Facts := ⟨[], [], noSum⟩; letI : Env := E; exact .cons (.res .u8 h0) (.cons (.bool true) .nil)) k34to34_t
    · obtain ⟨E, hE⟩ := envOf [] [] noSum [] (.nil) (by intro e he; simp at he)
      exact key _ E _ noSums (fun μ => by letI : Facts := ⟨[], [], noSum⟩; letI : Env := E; exact .cons (.res .u8 h0) (.cons (.bool true) .nil)) k35to35_t
    · obtain ⟨E, hE⟩ := envOf [] [] noSum [] (.nil) (by intro e he; simp at he)
      exact key _ E _ noSums (fun μ => by letI : Facts := ⟨[], [], noSum⟩; letI : Env := E; exact .cons (.res .u8 h0) (.cons (.bool true) .nil)) k36to36_t
    · obtain ⟨E, hE⟩ := envOf [] [] noSum [] (.nil) (by intro e he; simp at he)
      exact key _ E _ noSums (fun μ => by letI : Facts := ⟨[], [], noSum⟩; letI : Env := E; exact .cons (.res .u8 h0) (.cons (.bool true) .nil)) k37to37_t
    · obtain ⟨E, hE⟩ := envOf [] [] noSum [] (.nil) (by intro e he; simp at he)
      exact key _ E _ noSums (fun μ => by letI : Facts := ⟨[], [], noSum⟩; letI : Env := E; exact .cons (.res .u8 h0) (.cons (.bool true) .nil)) k38to38_t
    · obtain ⟨E, hE⟩ := envOf [] [] noSum [] (.nil) (by intro e he; simp at he)
      exact key _ E _ noSums (fun μ => by letI : Facts := ⟨[], [], noSum⟩; letI : Env := E; exact .cons (.res .u8 h0) (.cons (.bool true) .nil)) k39to39_t

/-! ### THE ROW's STEP: WRITTEN OUT: LEAVE IT -/
set_option maxRecDepth 100000 in
theorem lifted (os : Os) (started : os.Started) (H : Type) (enc : TypeId × Value → H) :
    ReturnsInHanded {} Tryz.checked os 5 .any (fun w args => (Rows.triggerOftenSpec.pre enc Tryz.prog Tryz.f5 Rows.triggerOftenRow.domain false w args ∧ laidMetH Tryz.prog Rows.triggerOftenRow.laid w) ∧ sizedMet enc Tryz.prog Tryz.f5 (OpenSpec.ofChange Rows.triggerOftenSpec) false w args) (Rows.triggerOftenSpec.post enc Tryz.prog Tryz.f5 false true false false) := by
  refine of_shaped_and (C := Tryz.checked) (X := fun w _ => laidMetH Tryz.prog Rows.triggerOftenRow.laid w) (fun _ _ _ hh h => h.of_heap hh) own started (by kernel_rfl) Tryz.func5
    (ChangeSpec.witness_shaped (enc := enc) (C := Tryz.checked) (os := os) (X := fun w _ => laidMetH Tryz.prog Rows.triggerOftenRow.laid w) false (World.laidAll Tryz.prog os Rows.triggerOftenRow.laid) #[.int .u8 0, .bool false] 8 (World.laidAll_os _ _ _)
      (World.shaped_of_ZipB (by kernel_rfl) (by kernel_rfl)) (by kernel_rfl) (by kernel_rfl) (by kernel_rfl)
      (by rw [MakeChecks.laidMetH_plain _ _ _ (by kernel_rfl)]; exact laidMet_laidAll _ (by kernel_rfl) (by kernel_rfl))) ?_
  intro W base args ds gs before hshape hval0 hW hL
  have hval : ∀ (j : Nat) t v, Tryz.f5.params[j]? = some t → args[j]? = some v → Value.okWide Tryz.prog W .any base t v := hval0
  have hW' := hW
  obtain ⟨p, q, hA0, hV, rfl, hfz, hnd⟩ := hW
  have hA : DataW.TrodAll enc Tryz.prog W 0 (fun _ => true) true Tryz.f5.params.toList args.toList ds p := hA0
  rw [Tryz.params5] at hA hval
  obtain ⟨v0, vs0, d0, ds0, p0, q0, hargs, rfl, rfl, h0, r0⟩ := trodAll_cons hA
  obtain ⟨v1, vs1, d1, ds1, p1, q1, rfl, rfl, rfl, h1, r1⟩ := trodAll_cons r0
  obtain ⟨rfl, rfl, rfl⟩ := trodAll_nil r1
  obtain rfl : args = #[v0, v1] := by cases args; simp_all
  obtain ⟨rfl, rfl⟩ := trodVars_none hV
  obtain ⟨a0, rfl, rfl, rfl, w0⟩ := open_int Tryz.underlying5 (hval 0 5 v0 rfl rfl) h0
  obtain ⟨a1, rfl, rfl, rfl⟩ := open_bool Tryz.underlying4 (hval 1 4 v1 rfl rfl) h1
  clear hA0 hval0
  simp only [List.append_nil] at hW'
  refine (walk a0 a1 w0 W hshape).mono fun e W' ⟨he, hg⟩ => ?_
  subst he
  exact ⟨_, rfl, _, _, _, [], _, [], hW', trodAll_mk1 (shut_bool Tryz.underlying4 _), (trodAll_cons_mk (shut_int Tryz.underlying5 w0) (trodAll_cons_mk (shut_bool Tryz.underlying4 _) trodAll_mk0)), rfl, hg.frame _, fun h => by cases h⟩

theorem over : Rows.triggerOftenRow.holds Tryz.pinned (OpenSpec.ofChange Rows.triggerOftenSpec) :=
  OpenClaim.holds_of_wide 5 Tryz.f5 rfl rfl rfl rfl rfl rfl rfl ⟨rfl, rfl, rfl, rfl, rfl⟩ rfl rfl rfl rfl rfl (by kernel_rfl) Tryz.func5 (by kernel_rfl)
    (of_decide_eq_true (by kernel_rfl)) (by unfold Func.isWrapper; first | (rw [if_pos (by decide +kernel)]; kernel_rfl) | (rw [if_neg (by decide +kernel)]; exact ⟨rfl, rfl⟩))
    (fun os started H enc _ => lifted os started H enc)

theorem proved : Rows.TriggerOftenCardSaid :=
  Claim7.holds_tied_plain_at .later [] [.data, .data, .data, .data, .sentinel, .sentinel, .wider, .wider, .wider, .wider, .wider, .wider, .pinned] true (true, "75da4ab823b5e8fffe5d285422d492c4b5a412f7197b365a2b26c97816c654a1") true over (fun _ h => by cases h) (by kernel_rfl) (fun _ h => by cases h) triggerOften_row_tie rfl ⟨rfl, rfl⟩ (by kernel_rfl) rfl
    (fun f fn hf hfn => by
      obtain rfl : f = 5 := Option.some.inj ((show Tryz.prog.funcNamed "reveille/reveillelaw21.TriggerOften" = some 5 by kernel_rfl).symm.trans hf) |>.symm
      obtain rfl : fn = Tryz.f5 := (Option.some.inj (Tryz.func5.symm.trans hfn)).symm
      exact ⟨by kernel_rfl, fun j t ht => by
        rw [Tryz.params5] at ht
        have hm : t ∈ [4, 5] := by
          have := Array.mem_of_getElem? ht
          simp at this
          first | (subst this; simp; done) | (rcases this with rfl | rfl <;> simp; done) | (rcases this with rfl | rfl | rfl <;> simp; done) | (rcases this with rfl | rfl | rfl | rfl <;> simp; done)
        have hall : ([4, 5].all fun u => !Tryz.prog.wantsStandIn u) = true := by kernel_rfl
        exact (show Tryz.prog.wantsStandIn t = false by simpa using List.all_eq_true.1 hall t hm)⟩)
    (by kernel_rfl)
#print axioms proved
end Go.Proofs.YtefajjeaakfbfaaGreatDoor.triggerOften
