/- The statement 'ServiceOneshots' holds of the given program: whatever the input, the law's function returns true. No condition. -/
import Derived.Test.YtnoddedgkgkfhaaRows
import Derived.WalkKit
import Derived.ProofKit
import Derived.OpenShut
import Derived.ShutString
import Derived.Test.YtnoddedgkgkfhaaEv5
import Derived.Test.YtnoddedgkgkfhaaOneshotsK0
import Derived.Test.YtnoddedgkgkfhaaOneshotsK1
import Derived.Test.YtnoddedgkgkfhaaOneshotsK2
import Derived.Test.YtnoddedgkgkfhaaOneshotsK3
import Derived.Test.YtnoddedgkgkfhaaOneshotsK4
import Derived.Test.YtnoddedgkgkfhaaOneshotsK5
import Derived.Test.YtnoddedgkgkfhaaOneshotsK6
import Derived.Test.YtnoddedgkgkfhaaOneshotsK7
import Derived.Test.YtnoddedgkgkfhaaOneshotsK8
import Derived.Test.YtnoddedgkgkfhaaOneshotsK9
import Derived.Test.YtnoddedgkgkfhaaOneshotsK10
import Derived.Test.YtnoddedgkgkfhaaOneshotsK11
namespace Go.Proofs.Ytnoddedgkgkfhaa.serviceOneshots
open Go.Ev
open Go.ChangeShapes Go.WideShapes Go.ChangeAt Go.RowKit
open Go.ChangeMaps (open_string shut_string)
set_option linter.unusedVariables false      -- a walk need not use every 'w<i>' (that an integer argument fits its kind)

theorem own : ownKnob Try.prog.godebug = none := by kernel_rfl

theorem walk (a0 : Int) (a1 : Bool) (a2 : Int) (w0 : (Lit.int .u8 a0).wf = true) (w2 : (Lit.int .u8 a2).wf = true) (w : World) (hs : w.ShapedOpen Try.prog) :
    Calls Try.prog 10 #[.int .u8 a0, .bool a1, .int .u8 a2] w fun e w' => e = .returned (.bool true) ∧ Below w.heap.size w w' := by
  have hmix : Try.prog.follows .mixedOrders = true := Try.checked.mixed
  obtain ⟨n0, rfl⟩ : ∃ n : Nat, a0 = n := ⟨a0.toNat, by
    have := w0
    simp [Lit.wf, IntKind.min, IntKind.max, IntKind.signed, IntKind.bits] at this
    omega⟩
  have hb0 : 0 ≤ (n0 : Int) ∧ (n0 : Int) ≤ 255 := by
    have := w0
    simp [Lit.wf, IntKind.min, IntKind.max, IntKind.signed, IntKind.bits] at this
    omega
  obtain ⟨n2, rfl⟩ : ∃ n : Nat, a2 = n := ⟨a2.toNat, by
    have := w2
    simp [Lit.wf, IntKind.min, IntKind.max, IntKind.signed, IntKind.bits] at this
    omega⟩
  have hb2 : 0 ≤ (n2 : Int) ∧ (n2 : Int) ≤ 255 := by
    have := w2
    simp [Lit.wf, IntKind.min, IntKind.max, IntKind.signed, IntKind.bits] at this
    omega
  have key : ∀ (F : Facts) (E : @Env F) (l : List AV), (∀ μ, @VRs F E μ l [.int .u8 (n0 : Int), .bool a1, .int .u8 (n2 : Int)]) → isTrue (@Ev.run F Try.prog 100000 10 l) = true →
      Calls Try.prog 10 #[.int .u8 (n0 : Int), .bool a1, .int .u8 (n2 : Int)] w fun e w' => e = .returned (.bool true) ∧ Below w.heap.size w w' := fun F E l hv h =>
    run_calls (F := F) (E := E) hmix (shaped_size hs) (enter_of Try.func10 (by kernel_rfl) (by kernel_rfl)) hv h
  have ho0 : n0 % 8 = 0 ∨ n0 % 8 = 1 ∨ n0 % 8 = 2 ∨ n0 % 8 = 3 ∨ n0 % 8 = 4 ∨ n0 % 8 = 5 ∨ n0 % 8 = 6 ∨ n0 % 8 = 7 := by omega
  have ho2 : n2 % 16 = 0 ∨ n2 % 16 = 1 ∨ n2 % 16 = 2 ∨ n2 % 16 = 3 ∨ n2 % 16 = 4 ∨ n2 % 16 = 5 ∨ n2 % 16 = 6 ∨ n2 % 16 = 7 ∨ (8 ≤ n2 % 16 ∧ n2 % 16 ≤ 15) := by omega
  rcases ho0 with h0 | h0 | h0 | h0 | h0 | h0 | h0 | h0
  · cases a1
    · rcases ho2 with h2 | h2 | h2 | h2 | h2 | h2 | h2 | h2 | h2
      · obtain ⟨E, hE⟩ := envOf [] [] [] (.nil) (by intro e he; simp at he)
        exact key _ E _ (fun μ => by letI : Facts := ⟨[], []⟩; letI : Env := E; exact .cons (.res .u8 h0) (.cons (.bool false) (.cons (.res .u8 h2) .nil))) k0_f_0
      · obtain ⟨E, hE⟩ := envOf [] [] [] (.nil) (by intro e he; simp at he)
        exact key _ E _ (fun μ => by letI : Facts := ⟨[], []⟩; letI : Env := E; exact .cons (.res .u8 h0) (.cons (.bool false) (.cons (.res .u8 h2) .nil))) k0_f_1
      · obtain ⟨E, hE⟩ := envOf [] [] [] (.nil) (by intro e he; simp at he)
        exact key _ E _ (fun μ => by letI : Facts := ⟨[], []⟩; letI : Env := E; exact .cons (.res .u8 h0) (.cons (.bool false) (.cons (.res .u8 h2) .nil))) k0_f_2
      · obtain ⟨E, hE⟩ := envOf [] [] [] (.nil) (by intro e he; simp at he)
        exact key _ E _ (fun μ => by letI : Facts := ⟨[], []⟩; letI : Env := E; exact .cons (.res .u8 h0) (.cons (.bool false) (.cons (.res .u8 h2) .nil))) k0_f_3
      · obtain ⟨E, hE⟩ := envOf [] [] [] (.nil) (by intro e he; simp at he)
        exact key _ E _ (fun μ => by letI : Facts := ⟨[], []⟩; letI : Env := E; exact .cons (.res .u8 h0) (.cons (.bool false) (.cons (.res .u8 h2) .nil))) k0_f_4
      · obtain ⟨E, hE⟩ := envOf [] [] [] (.nil) (by intro e he; simp at he)
        exact key _ E _ (fun μ => by letI : Facts := ⟨[], []⟩; letI : Env := E; exact .cons (.res .u8 h0) (.cons (.bool false) (.cons (.res .u8 h2) .nil))) k0_f_5
      · obtain ⟨E, hE⟩ := envOf [] [] [] (.nil) (by intro e he; simp at he)
        exact key _ E _ (fun μ => by letI : Facts := ⟨[], []⟩; letI : Env := E; exact .cons (.res .u8 h0) (.cons (.bool false) (.cons (.res .u8 h2) .nil))) k0_f_6
      · obtain ⟨E, hE⟩ := envOf [] [] [] (.nil) (by intro e he; simp at he)
        exact key _ E _ (fun μ => by letI : Facts := ⟨[], []⟩; letI : Env := E; exact .cons (.res .u8 h0) (.cons (.bool false) (.cons (.res .u8 h2) .nil))) k0_f_7
      · obtain ⟨E, hE⟩ := envOf [(8, 15), (0, 15)] [] [(n2 : Int) % 16, (n2 : Int) / 16] (.cons (⟨by omega, by omega⟩) (.cons (⟨by omega, by omega⟩) .nil)) (by intro e he; simp at he)
        exact key _ E _ (fun μ => by letI : Facts := ⟨[(8, 15), (0, 15)], []⟩; letI : Env := E; exact .cons (.res .u8 h0) (.cons (.bool false) (.cons (.sym .u8 (by rw [hE]; simp; omega)) .nil))) k0_f_8
    · rcases ho2 with h2 | h2 | h2 | h2 | h2 | h2 | h2 | h2 | h2
      · obtain ⟨E, hE⟩ := envOf [] [] [] (.nil) (by intro e he; simp at he)
        exact key _ E _ (fun μ => by letI : Facts := ⟨[], []⟩; letI : Env := E; exact .cons (.res .u8 h0) (.cons (.bool true) (.cons (.res .u8 h2) .nil))) k0_t_0
      · obtain ⟨E, hE⟩ := envOf [] [] [] (.nil) (by intro e he; simp at he)
        exact key _ E _ (fun μ => by letI : Facts := ⟨[], []⟩; letI : Env := E; exact .cons (.res .u8 h0) (.cons (.bool true) (.cons (.res .u8 h2) .nil))) k0_t_1
      · obtain ⟨E, hE⟩ := envOf [] [] [] (.nil) (by intro e he; simp at he)
        exact key _ E _ (fun μ => by letI : Facts := ⟨[], []⟩; letI : Env := E; exact .cons (.res .u8 h0) (.cons (.bool true) (.cons (.res .u8 h2) .nil))) k0_t_2
      · obtain ⟨E, hE⟩ := envOf [] [] [] (.nil) (by intro e he; simp at he)
        exact key _ E _ (fun μ => by letI : Facts := ⟨[], []⟩; letI : Env := E; exact .cons (.res .u8 h0) (.cons (.bool true) (.cons (.res .u8 h2) .nil))) k0_t_3
      · obtain ⟨E, hE⟩ := envOf [] [] [] (.nil) (by intro e he; simp at he)
        exact key _ E _ (fun μ => by letI : Facts := ⟨[], []⟩; letI : Env := E; exact .cons (.res .u8 h0) (.cons (.bool true) (.cons (.res .u8 h2) .nil))) k0_t_4
      · obtain ⟨E, hE⟩ := envOf [] [] [] (.nil) (by intro e he; simp at he)
        exact key _ E _ (fun μ => by letI : Facts := ⟨[], []⟩; letI : Env := E; exact .cons (.res .u8 h0) (.cons (.bool true) (.cons (.res .u8 h2) .nil))) k0_t_5
      · obtain ⟨E, hE⟩ := envOf [] [] [] (.nil) (by intro e he; simp at he)
        exact key _ E _ (fun μ => by letI : Facts := ⟨[], []⟩; letI : Env := E; exact .cons (.res .u8 h0) (.cons (.bool true) (.cons (.res .u8 h2) .nil))) k0_t_6
      · obtain ⟨E, hE⟩ := envOf [] [] [] (.nil) (by intro e he; simp at he)
        exact key _ E _ (fun μ => by letI : Facts := ⟨[], []⟩; letI : Env := E; exact .cons (.res .u8 h0) (.cons (.bool true) (.cons (.res .u8 h2) .nil))) k0_t_7
      · obtain ⟨E, hE⟩ := envOf [(8, 15), (0, 15)] [] [(n2 : Int) % 16, (n2 : Int) / 16] (.cons (⟨by omega, by omega⟩) (.cons (⟨by omega, by omega⟩) .nil)) (by intro e he; simp at he)
        exact key _ E _ (fun μ => by letI : Facts := ⟨[(8, 15), (0, 15)], []⟩; letI : Env := E; exact .cons (.res .u8 h0) (.cons (.bool true) (.cons (.sym .u8 (by rw [hE]; simp; omega)) .nil))) k0_t_8
  · cases a1
    · rcases ho2 with h2 | h2 | h2 | h2 | h2 | h2 | h2 | h2 | h2
      · obtain ⟨E, hE⟩ := envOf [] [] [] (.nil) (by intro e he; simp at he)
        exact key _ E _ (fun μ => by letI : Facts := ⟨[], []⟩; letI : Env := E; exact .cons (.res .u8 h0) (.cons (.bool false) (.cons (.res .u8 h2) .nil))) k1_f_0
      · obtain ⟨E, hE⟩ := envOf [] [] [] (.nil) (by intro e he; simp at he)
        exact key _ E _ (fun μ => by letI : Facts := ⟨[], []⟩; letI : Env := E; exact .cons (.res .u8 h0) (.cons (.bool false) (.cons (.res .u8 h2) .nil))) k1_f_1
      · obtain ⟨E, hE⟩ := envOf [] [] [] (.nil) (by intro e he; simp at he)
        exact key _ E _ (fun μ => by letI : Facts := ⟨[], []⟩; letI : Env := E; exact .cons (.res .u8 h0) (.cons (.bool false) (.cons (.res .u8 h2) .nil))) k1_f_2
      · obtain ⟨E, hE⟩ := envOf [] [] [] (.nil) (by intro e he; simp at he)
        exact key _ E _ (fun μ => by letI : Facts := ⟨[], []⟩; letI : Env := E; exact .cons (.res .u8 h0) (.cons (.bool false) (.cons (.res .u8 h2) .nil))) k1_f_3
      · obtain ⟨E, hE⟩ := envOf [] [] [] (.nil) (by intro e he; simp at he)
        exact key _ E _ (fun μ => by letI : Facts := ⟨[], []⟩; letI : Env := E; exact .cons (.res .u8 h0) (.cons (.bool false) (.cons (.res .u8 h2) .nil))) k1_f_4
      · obtain ⟨E, hE⟩ := envOf [] [] [] (.nil) (by intro e he; simp at he)
        exact key _ E _ (fun μ => by letI : Facts := ⟨[], []⟩; letI : Env := E; exact .cons (.res .u8 h0) (.cons (.bool false) (.cons (.res .u8 h2) .nil))) k1_f_5
      · obtain ⟨E, hE⟩ := envOf [] [] [] (.nil) (by intro e he; simp at he)
        exact key _ E _ (fun μ => by letI : Facts := ⟨[], []⟩; letI : Env := E; exact .cons (.res .u8 h0) (.cons (.bool false) (.cons (.res .u8 h2) .nil))) k1_f_6
      · obtain ⟨E, hE⟩ := envOf [] [] [] (.nil) (by intro e he; simp at he)
        exact key _ E _ (fun μ => by letI : Facts := ⟨[], []⟩; letI : Env := E; exact .cons (.res .u8 h0) (.cons (.bool false) (.cons (.res .u8 h2) .nil))) k1_f_7
      · obtain ⟨E, hE⟩ := envOf [(8, 15), (0, 15)] [] [(n2 : Int) % 16, (n2 : Int) / 16] (.cons (⟨by omega, by omega⟩) (.cons (⟨by omega, by omega⟩) .nil)) (by intro e he; simp at he)
        exact key _ E _ (fun μ => by letI : Facts := ⟨[(8, 15), (0, 15)], []⟩; letI : Env := E; exact .cons (.res .u8 h0) (.cons (.bool false) (.cons (.sym .u8 (by rw [hE]; simp; omega)) .nil))) k1_f_8
    · rcases ho2 with h2 | h2 | h2 | h2 | h2 | h2 | h2 | h2 | h2
      · obtain ⟨E, hE⟩ := envOf [] [] [] (.nil) (by intro e he; simp at he)
        exact key _ E _ (fun μ => by letI : Facts := ⟨[], []⟩; letI : Env := E; exact .cons (.res .u8 h0) (.cons (.bool true) (.cons (.res .u8 h2) .nil))) k1_t_0
      · obtain ⟨E, hE⟩ := envOf [] [] [] (.nil) (by intro e he; simp at he)
        exact key _ E _ (fun μ => by letI : Facts := ⟨[], []⟩; letI : Env := E; exact .cons (.res .u8 h0) (.cons (.bool true) (.cons (.res .u8 h2) .nil))) k1_t_1
      · obtain ⟨E, hE⟩ := envOf [] [] [] (.nil) (by intro e he; simp at he)
        exact key _ E _ (fun μ => by letI : Facts := ⟨[], []⟩; letI : Env := E; exact .cons (.res .u8 h0) (.cons (.bool true) (.cons (.res .u8 h2) .nil))) k1_t_2
      · obtain ⟨E, hE⟩ := envOf [] [] [] (.nil) (by intro e he; simp at he)
        exact key _ E _ (fun μ => by letI : Facts := ⟨[], []⟩; letI : Env := E; exact .cons (.res .u8 h0) (.cons (.bool true) (.cons (.res .u8 h2) .nil))) k1_t_3
      · obtain ⟨E, hE⟩ := envOf [] [] [] (.nil) (by intro e he; simp at he)
        exact key _ E _ (fun μ => by letI : Facts := ⟨[], []⟩; letI : Env := E; exact .cons (.res .u8 h0) (.cons (.bool true) (.cons (.res .u8 h2) .nil))) k1_t_4
      · obtain ⟨E, hE⟩ := envOf [] [] [] (.nil) (by intro e he; simp at he)
        exact key _ E _ (fun μ => by letI : Facts := ⟨[], []⟩; letI : Env := E; exact .cons (.res .u8 h0) (.cons (.bool true) (.cons (.res .u8 h2) .nil))) k1_t_5
      · obtain ⟨E, hE⟩ := envOf [] [] [] (.nil) (by intro e he; simp at he)
        exact key _ E _ (fun μ => by letI : Facts := ⟨[], []⟩; letI : Env := E; exact .cons (.res .u8 h0) (.cons (.bool true) (.cons (.res .u8 h2) .nil))) k1_t_6
      · obtain ⟨E, hE⟩ := envOf [] [] [] (.nil) (by intro e he; simp at he)
        exact key _ E _ (fun μ => by letI : Facts := ⟨[], []⟩; letI : Env := E; exact .cons (.res .u8 h0) (.cons (.bool true) (.cons (.res .u8 h2) .nil))) k1_t_7
      · obtain ⟨E, hE⟩ := envOf [(8, 15), (0, 15)] [] [(n2 : Int) % 16, (n2 : Int) / 16] (.cons (⟨by omega, by omega⟩) (.cons (⟨by omega, by omega⟩) .nil)) (by intro e he; simp at he)
        exact key _ E _ (fun μ => by letI : Facts := ⟨[(8, 15), (0, 15)], []⟩; letI : Env := E; exact .cons (.res .u8 h0) (.cons (.bool true) (.cons (.sym .u8 (by rw [hE]; simp; omega)) .nil))) k1_t_8
  · cases a1
    · rcases ho2 with h2 | h2 | h2 | h2 | h2 | h2 | h2 | h2 | h2
      · obtain ⟨E, hE⟩ := envOf [] [] [] (.nil) (by intro e he; simp at he)
        exact key _ E _ (fun μ => by letI : Facts := ⟨[], []⟩; letI : Env := E; exact .cons (.res .u8 h0) (.cons (.bool false) (.cons (.res .u8 h2) .nil))) k2_f_0
      · obtain ⟨E, hE⟩ := envOf [] [] [] (.nil) (by intro e he; simp at he)
        exact key _ E _ (fun μ => by letI : Facts := ⟨[], []⟩; letI : Env := E; exact .cons (.res .u8 h0) (.cons (.bool false) (.cons (.res .u8 h2) .nil))) k2_f_1
      · obtain ⟨E, hE⟩ := envOf [] [] [] (.nil) (by intro e he; simp at he)
        exact key _ E _ (fun μ => by letI : Facts := ⟨[], []⟩; letI : Env := E; exact .cons (.res .u8 h0) (.cons (.bool false) (.cons (.res .u8 h2) .nil))) k2_f_2
      · obtain ⟨E, hE⟩ := envOf [] [] [] (.nil) (by intro e he; simp at he)
        exact key _ E _ (fun μ => by letI : Facts := ⟨[], []⟩; letI : Env := E; exact .cons (.res .u8 h0) (.cons (.bool false) (.cons (.res .u8 h2) .nil))) k2_f_3
      · obtain ⟨E, hE⟩ := envOf [] [] [] (.nil) (by intro e he; simp at he)
        exact key _ E _ (fun μ => by letI : Facts := ⟨[], []⟩; letI : Env := E; exact .cons (.res .u8 h0) (.cons (.bool false) (.cons (.res .u8 h2) .nil))) k2_f_4
      · obtain ⟨E, hE⟩ := envOf [] [] [] (.nil) (by intro e he; simp at he)
        exact key _ E _ (fun μ => by letI : Facts := ⟨[], []⟩; letI : Env := E; exact .cons (.res .u8 h0) (.cons (.bool false) (.cons (.res .u8 h2) .nil))) k2_f_5
      · obtain ⟨E, hE⟩ := envOf [] [] [] (.nil) (by intro e he; simp at he)
        exact key _ E _ (fun μ => by letI : Facts := ⟨[], []⟩; letI : Env := E; exact .cons (.res .u8 h0) (.cons (.bool false) (.cons (.res .u8 h2) .nil))) k2_f_6
      · obtain ⟨E, hE⟩ := envOf [] [] [] (.nil) (by intro e he; simp at he)
        exact key _ E _ (fun μ => by letI : Facts := ⟨[], []⟩; letI : Env := E; exact .cons (.res .u8 h0) (.cons (.bool false) (.cons (.res .u8 h2) .nil))) k2_f_7
      · obtain ⟨E, hE⟩ := envOf [(8, 15), (0, 15)] [] [(n2 : Int) % 16, (n2 : Int) / 16] (.cons (⟨by omega, by omega⟩) (.cons (⟨by omega, by omega⟩) .nil)) (by intro e he; simp at he)
        exact key _ E _ (fun μ => by letI : Facts := ⟨[(8, 15), (0, 15)], []⟩; letI : Env := E; exact .cons (.res .u8 h0) (.cons (.bool false) (.cons (.sym .u8 (by rw [hE]; simp; omega)) .nil))) k2_f_8
    · rcases ho2 with h2 | h2 | h2 | h2 | h2 | h2 | h2 | h2 | h2
      · obtain ⟨E, hE⟩ := envOf [] [] [] (.nil) (by intro e he; simp at he)
        exact key _ E _ (fun μ => by letI : Facts := ⟨[], []⟩; letI : Env := E; exact .cons (.res .u8 h0) (.cons (.bool true) (.cons (.res .u8 h2) .nil))) k2_t_0
      · obtain ⟨E, hE⟩ := envOf [] [] [] (.nil) (by intro e he; simp at he)
        exact key _ E _ (fun μ => by letI : Facts := ⟨[], []⟩; letI : Env := E; exact .cons (.res .u8 h0) (.cons (.bool true) (.cons (.res .u8 h2) .nil))) k2_t_1
      · obtain ⟨E, hE⟩ := envOf [] [] [] (.nil) (by intro e he; simp at he)
        exact key _ E _ (fun μ => by letI : Facts := ⟨[], []⟩; letI : Env := E; exact .cons (.res .u8 h0) (.cons (.bool true) (.cons (.res .u8 h2) .nil))) k2_t_2
      · obtain ⟨E, hE⟩ := envOf [] [] [] (.nil) (by intro e he; simp at he)
        exact key _ E _ (fun μ => by letI : Facts := ⟨[], []⟩; letI : Env := E; exact .cons (.res .u8 h0) (.cons (.bool true) (.cons (.res .u8 h2) .nil))) k2_t_3
      · obtain ⟨E, hE⟩ := envOf [] [] [] (.nil) (by intro e he; simp at he)
        exact key _ E _ (fun μ => by letI : Facts := ⟨[], []⟩; letI : Env := E; exact .cons (.res .u8 h0) (.cons (.bool true) (.cons (.res .u8 h2) .nil))) k2_t_4
      · obtain ⟨E, hE⟩ := envOf [] [] [] (.nil) (by intro e he; simp at he)
        exact key _ E _ (fun μ => by letI : Facts := ⟨[], []⟩; letI : Env := E; exact .cons (.res .u8 h0) (.cons (.bool true) (.cons (.res .u8 h2) .nil))) k2_t_5
      · obtain ⟨E, hE⟩ := envOf [] [] [] (.nil) (by intro e he; simp at he)
        exact key _ E _ (fun μ => by letI : Facts := ⟨[], []⟩; letI : Env := E; exact .cons (.res .u8 h0) (.cons (.bool true) (.cons (.res .u8 h2) .nil))) k2_t_6
      · obtain ⟨E, hE⟩ := envOf [] [] [] (.nil) (by intro e he; simp at he)
        exact key _ E _ (fun μ => by letI : Facts := ⟨[], []⟩; letI : Env := E; exact .cons (.res .u8 h0) (.cons (.bool true) (.cons (.res .u8 h2) .nil))) k2_t_7
      · obtain ⟨E, hE⟩ := envOf [(8, 15), (0, 15)] [] [(n2 : Int) % 16, (n2 : Int) / 16] (.cons (⟨by omega, by omega⟩) (.cons (⟨by omega, by omega⟩) .nil)) (by intro e he; simp at he)
        exact key _ E _ (fun μ => by letI : Facts := ⟨[(8, 15), (0, 15)], []⟩; letI : Env := E; exact .cons (.res .u8 h0) (.cons (.bool true) (.cons (.sym .u8 (by rw [hE]; simp; omega)) .nil))) k2_t_8
  · cases a1
    · rcases ho2 with h2 | h2 | h2 | h2 | h2 | h2 | h2 | h2 | h2
      · obtain ⟨E, hE⟩ := envOf [] [] [] (.nil) (by intro e he; simp at he)
        exact key _ E _ (fun μ => by letI : Facts := ⟨[], []⟩; letI : Env := E; exact .cons (.res .u8 h0) (.cons (.bool false) (.cons (.res .u8 h2) .nil))) k3_f_0
      · obtain ⟨E, hE⟩ := envOf [] [] [] (.nil) (by intro e he; simp at he)
        exact key _ E _ (fun μ => by letI : Facts := ⟨[], []⟩; letI : Env := E; exact .cons (.res .u8 h0) (.cons (.bool false) (.cons (.res .u8 h2) .nil))) k3_f_1
      · obtain ⟨E, hE⟩ := envOf [] [] [] (.nil) (by intro e he; simp at he)
        exact key _ E _ (fun μ => by letI : Facts := ⟨[], []⟩; letI : Env := E; exact .cons (.res .u8 h0) (.cons (.bool false) (.cons (.res .u8 h2) .nil))) k3_f_2
      · obtain ⟨E, hE⟩ := envOf [] [] [] (.nil) (by intro e he; simp at he)
        exact key _ E _ (fun μ => by letI : Facts := ⟨[], []⟩; letI : Env := E; exact .cons (.res .u8 h0) (.cons (.bool false) (.cons (.res .u8 h2) .nil))) k3_f_3
      · obtain ⟨E, hE⟩ := envOf [] [] [] (.nil) (by intro e he; simp at he)
        exact key _ E _ (fun μ => by letI : Facts := ⟨[], []⟩; letI : Env := E; exact .cons (.res .u8 h0) (.cons (.bool false) (.cons (.res .u8 h2) .nil))) k3_f_4
      · obtain ⟨E, hE⟩ := envOf [] [] [] (.nil) (by intro e he; simp at he)
        exact key _ E _ (fun μ => by letI : Facts := ⟨[], []⟩; letI : Env := E; exact .cons (.res .u8 h0) (.cons (.bool false) (.cons (.res .u8 h2) .nil))) k3_f_5
      · obtain ⟨E, hE⟩ := envOf [] [] [] (.nil) (by intro e he; simp at he)
        exact key _ E _ (fun μ => by letI : Facts := ⟨[], []⟩; letI : Env := E; exact .cons (.res .u8 h0) (.cons (.bool false) (.cons (.res .u8 h2) .nil))) k3_f_6
      · obtain ⟨E, hE⟩ := envOf [] [] [] (.nil) (by intro e he; simp at he)
        exact key _ E _ (fun μ => by letI : Facts := ⟨[], []⟩; letI : Env := E; exact .cons (.res .u8 h0) (.cons (.bool false) (.cons (.res .u8 h2) .nil))) k3_f_7
      · obtain ⟨E, hE⟩ := envOf [(8, 15), (0, 15)] [] [(n2 : Int) % 16, (n2 : Int) / 16] (.cons (⟨by omega, by omega⟩) (.cons (⟨by omega, by omega⟩) .nil)) (by intro e he; simp at he)
        exact key _ E _ (fun μ => by letI : Facts := ⟨[(8, 15), (0, 15)], []⟩; letI : Env := E; exact .cons (.res .u8 h0) (.cons (.bool false) (.cons (.sym .u8 (by rw [hE]; simp; omega)) .nil))) k3_f_8
    · rcases ho2 with h2 | h2 | h2 | h2 | h2 | h2 | h2 | h2 | h2
      · obtain ⟨E, hE⟩ := envOf [] [] [] (.nil) (by intro e he; simp at he)
        exact key _ E _ (fun μ => by letI : Facts := ⟨[], []⟩; letI : Env := E; exact .cons (.res .u8 h0) (.cons (.bool true) (.cons (.res .u8 h2) .nil))) k3_t_0
      · obtain ⟨E, hE⟩ := envOf [] [] [] (.nil) (by intro e he; simp at he)
        exact key _ E _ (fun μ => by letI : Facts := ⟨[], []⟩; letI : Env := E; exact .cons (.res .u8 h0) (.cons (.bool true) (.cons (.res .u8 h2) .nil))) k3_t_1
      · obtain ⟨E, hE⟩ := envOf [] [] [] (.nil) (by intro e he; simp at he)
        exact key _ E _ (fun μ => by letI : Facts := ⟨[], []⟩; letI : Env := E; exact .cons (.res .u8 h0) (.cons (.bool true) (.cons (.res .u8 h2) .nil))) k3_t_2
      · obtain ⟨E, hE⟩ := envOf [] [] [] (.nil) (by intro e he; simp at he)
        exact key _ E _ (fun μ => by letI : Facts := ⟨[], []⟩; letI : Env := E; exact .cons (.res .u8 h0) (.cons (.bool true) (.cons (.res .u8 h2) .nil))) k3_t_3
      · obtain ⟨E, hE⟩ := envOf [] [] [] (.nil) (by intro e he; simp at he)
        exact key _ E _ (fun μ => by letI : Facts := ⟨[], []⟩; letI : Env := E; exact .cons (.res .u8 h0) (.cons (.bool true) (.cons (.res .u8 h2) .nil))) k3_t_4
      · obtain ⟨E, hE⟩ := envOf [] [] [] (.nil) (by intro e he; simp at he)
        exact key _ E _ (fun μ => by letI : Facts := ⟨[], []⟩; letI : Env := E; exact .cons (.res .u8 h0) (.cons (.bool true) (.cons (.res .u8 h2) .nil))) k3_t_5
      · obtain ⟨E, hE⟩ := envOf [] [] [] (.nil) (by intro e he; simp at he)
        exact key _ E _ (fun μ => by letI : Facts := ⟨[], []⟩; letI : Env := E; exact .cons (.res .u8 h0) (.cons (.bool true) (.cons (.res .u8 h2) .nil))) k3_t_6
      · obtain ⟨E, hE⟩ := envOf [] [] [] (.nil) (by intro e he; simp at he)
        exact key _ E _ (fun μ => by letI : Facts := ⟨[], []⟩; letI : Env := E; exact .cons (.res .u8 h0) (.cons (.bool true) (.cons (.res .u8 h2) .nil))) k3_t_7
      · obtain ⟨E, hE⟩ := envOf [(8, 15), (0, 15)] [] [(n2 : Int) % 16, (n2 : Int) / 16] (.cons (⟨by omega, by omega⟩) (.cons (⟨by omega, by omega⟩) .nil)) (by intro e he; simp at he)
        exact key _ E _ (fun μ => by letI : Facts := ⟨[(8, 15), (0, 15)], []⟩; letI : Env := E; exact .cons (.res .u8 h0) (.cons (.bool true) (.cons (.sym .u8 (by rw [hE]; simp; omega)) .nil))) k3_t_8
  · cases a1
    · rcases ho2 with h2 | h2 | h2 | h2 | h2 | h2 | h2 | h2 | h2
      · obtain ⟨E, hE⟩ := envOf [] [] [] (.nil) (by intro e he; simp at he)
        exact key _ E _ (fun μ => by letI : Facts := ⟨[], []⟩; letI : Env := E; exact .cons (.res .u8 h0) (.cons (.bool false) (.cons (.res .u8 h2) .nil))) k4_f_0
      · obtain ⟨E, hE⟩ := envOf [] [] [] (.nil) (by intro e he; simp at he)
        exact key _ E _ (fun μ => by letI : Facts := ⟨[], []⟩; letI : Env := E; exact .cons (.res .u8 h0) (.cons (.bool false) (.cons (.res .u8 h2) .nil))) k4_f_1
      · obtain ⟨E, hE⟩ := envOf [] [] [] (.nil) (by intro e he; simp at he)
        exact key _ E _ (fun μ => by letI : Facts := ⟨[], []⟩; letI : Env := E; exact .cons (.res .u8 h0) (.cons (.bool false) (.cons (.res .u8 h2) .nil))) k4_f_2
      · obtain ⟨E, hE⟩ := envOf [] [] [] (.nil) (by intro e he; simp at he)
        exact key _ E _ (fun μ => by letI : Facts := ⟨[], []⟩; letI : Env := E; exact .cons (.res .u8 h0) (.cons (.bool false) (.cons (.res .u8 h2) .nil))) k4_f_3
      · obtain ⟨E, hE⟩ := envOf [] [] [] (.nil) (by intro e he; simp at he)
        exact key _ E _ (fun μ => by letI : Facts := ⟨[], []⟩; letI : Env := E; exact .cons (.res .u8 h0) (.cons (.bool false) (.cons (.res .u8 h2) .nil))) k4_f_4
      · obtain ⟨E, hE⟩ := envOf [] [] [] (.nil) (by intro e he; simp at he)
        exact key _ E _ (fun μ => by letI : Facts := ⟨[], []⟩; letI : Env := E; exact .cons (.res .u8 h0) (.cons (.bool false) (.cons (.res .u8 h2) .nil))) k4_f_5
      · obtain ⟨E, hE⟩ := envOf [] [] [] (.nil) (by intro e he; simp at he)
        exact key _ E _ (fun μ => by letI : Facts := ⟨[], []⟩; letI : Env := E; exact .cons (.res .u8 h0) (.cons (.bool false) (.cons (.res .u8 h2) .nil))) k4_f_6
      · obtain ⟨E, hE⟩ := envOf [] [] [] (.nil) (by intro e he; simp at he)
        exact key _ E _ (fun μ => by letI : Facts := ⟨[], []⟩; letI : Env := E; exact .cons (.res .u8 h0) (.cons (.bool false) (.cons (.res .u8 h2) .nil))) k4_f_7
      · obtain ⟨E, hE⟩ := envOf [(8, 15), (0, 15)] [] [(n2 : Int) % 16, (n2 : Int) / 16] (.cons (⟨by omega, by omega⟩) (.cons (⟨by omega, by omega⟩) .nil)) (by intro e he; simp at he)
        exact key _ E _ (fun μ => by letI : Facts := ⟨[(8, 15), (0, 15)], []⟩; letI : Env := E; exact .cons (.res .u8 h0) (.cons (.bool false) (.cons (.sym .u8 (by rw [hE]; simp; omega)) .nil))) k4_f_8
    · rcases ho2 with h2 | h2 | h2 | h2 | h2 | h2 | h2 | h2 | h2
      · obtain ⟨E, hE⟩ := envOf [] [] [] (.nil) (by intro e he; simp at he)
        exact key _ E _ (fun μ => by letI : Facts := ⟨[], []⟩; letI : Env := E; exact .cons (.res .u8 h0) (.cons (.bool true) (.cons (.res .u8 h2) .nil))) k4_t_0
      · obtain ⟨E, hE⟩ := envOf [] [] [] (.nil) (by intro e he; simp at he)
        exact key _ E _ (fun μ => by letI : Facts := ⟨[], []⟩; letI : Env := E; exact .cons (.res .u8 h0) (.cons (.bool true) (.cons (.res .u8 h2) .nil))) k4_t_1
      · obtain ⟨E, hE⟩ := envOf [] [] [] (.nil) (by intro e he; simp at he)
        exact key _ E _ (fun μ => by letI : Facts := ⟨[], []⟩; letI : Env := E; exact .cons (.res .u8 h0) (.cons (.bool true) (.cons (.res .u8 h2) .nil))) k4_t_2
      · obtain ⟨E, hE⟩ := envOf [] [] [] (.nil) (by intro e he; simp at he)
        exact key _ E _ (fun μ => by letI : Facts := ⟨[], []⟩; letI : Env := E; exact .cons (.res .u8 h0) (.cons (.bool true) (.cons (.res .u8 h2) .nil))) k4_t_3
      · obtain ⟨E, hE⟩ := envOf [] [] [] (.nil) (by intro e he; simp at he)
        exact key _ E _ (fun μ => by letI : Facts := ⟨[], []⟩; letI : Env := E; exact .cons (.res .u8 h0) (.cons (.bool true) (.cons (.res .u8 h2) .nil))) k4_t_4
      · obtain ⟨E, hE⟩ := envOf [] [] [] (.nil) (by intro e he; simp at he)
        exact key _ E _ (fun μ => by letI : Facts := ⟨[], []⟩; letI : Env := E; exact .cons (.res .u8 h0) (.cons (.bool true) (.cons (.res .u8 h2) .nil))) k4_t_5
      · obtain ⟨E, hE⟩ := envOf [] [] [] (.nil) (by intro e he; simp at he)
        exact key _ E _ (fun μ => by letI : Facts := ⟨[], []⟩; letI : Env := E; exact .cons (.res .u8 h0) (.cons (.bool true) (.cons (.res .u8 h2) .nil))) k4_t_6
      · obtain ⟨E, hE⟩ := envOf [] [] [] (.nil) (by intro e he; simp at he)
        exact key _ E _ (fun μ => by letI : Facts := ⟨[], []⟩; letI : Env := E; exact .cons (.res .u8 h0) (.cons (.bool true) (.cons (.res .u8 h2) .nil))) k4_t_7
      · obtain ⟨E, hE⟩ := envOf [(8, 15), (0, 15)] [] [(n2 : Int) % 16, (n2 : Int) / 16] (.cons (⟨by omega, by omega⟩) (.cons (⟨by omega, by omega⟩) .nil)) (by intro e he; simp at he)
        exact key _ E _ (fun μ => by letI : Facts := ⟨[(8, 15), (0, 15)], []⟩; letI : Env := E; exact .cons (.res .u8 h0) (.cons (.bool true) (.cons (.sym .u8 (by rw [hE]; simp; omega)) .nil))) k4_t_8
  · cases a1
    · rcases ho2 with h2 | h2 | h2 | h2 | h2 | h2 | h2 | h2 | h2
      · obtain ⟨E, hE⟩ := envOf [] [] [] (.nil) (by intro e he; simp at he)
        exact key _ E _ (fun μ => by letI : Facts := ⟨[], []⟩; letI : Env := E; exact .cons (.res .u8 h0) (.cons (.bool false) (.cons (.res .u8 h2) .nil))) k5_f_0
      · obtain ⟨E, hE⟩ := envOf [] [] [] (.nil) (by intro e he; simp at he)
        exact key _ E _ (fun μ => by letI : Facts := ⟨[], []⟩; letI : Env := E; exact .cons (.res .u8 h0) (.cons (.bool false) (.cons (.res .u8 h2) .nil))) k5_f_1
      · obtain ⟨E, hE⟩ := envOf [] [] [] (.nil) (by intro e he; simp at he)
        exact key _ E _ (fun μ => by letI : Facts := ⟨[], []⟩; letI : Env := E; exact .cons (.res .u8 h0) (.cons (.bool false) (.cons (.res .u8 h2) .nil))) k5_f_2
      · obtain ⟨E, hE⟩ := envOf [] [] [] (.nil) (by intro e he; simp at he)
        exact key _ E _ (fun μ => by letI : Facts := ⟨[], []⟩; letI : Env := E; exact .cons (.res .u8 h0) (.cons (.bool false) (.cons (.res .u8 h2) .nil))) k5_f_3
      · obtain ⟨E, hE⟩ := envOf [] [] [] (.nil) (by intro e he; simp at he)
        exact key _ E _ (fun μ => by letI : Facts := ⟨[], []⟩; letI : Env := E; exact .cons (.res .u8 h0) (.cons (.bool false) (.cons (.res .u8 h2) .nil))) k5_f_4
      · obtain ⟨E, hE⟩ := envOf [] [] [] (.nil) (by intro e he; simp at he)
        exact key _ E _ (fun μ => by letI : Facts := ⟨[], []⟩; letI : Env := E; exact .cons (.res .u8 h0) (.cons (.bool false) (.cons (.res .u8 h2) .nil))) k5_f_5
      · obtain ⟨E, hE⟩ := envOf [] [] [] (.nil) (by intro e he; simp at he)
        exact key _ E _ (fun μ => by letI : Facts := ⟨[], []⟩; letI : Env := E; exact .cons (.res .u8 h0) (.cons (.bool false) (.cons (.res .u8 h2) .nil))) k5_f_6
      · obtain ⟨E, hE⟩ := envOf [] [] [] (.nil) (by intro e he; simp at he)
        exact key _ E _ (fun μ => by letI : Facts := ⟨[], []⟩; letI : Env := E; exact .cons (.res .u8 h0) (.cons (.bool false) (.cons (.res .u8 h2) .nil))) k5_f_7
      · obtain ⟨E, hE⟩ := envOf [(8, 15), (0, 15)] [] [(n2 : Int) % 16, (n2 : Int) / 16] (.cons (⟨by omega, by omega⟩) (.cons (⟨by omega, by omega⟩) .nil)) (by intro e he; simp at he)
        exact key _ E _ (fun μ => by letI : Facts := ⟨[(8, 15), (0, 15)], []⟩; letI : Env := E; exact .cons (.res .u8 h0) (.cons (.bool false) (.cons (.sym .u8 (by rw [hE]; simp; omega)) .nil))) k5_f_8
    · rcases ho2 with h2 | h2 | h2 | h2 | h2 | h2 | h2 | h2 | h2
      · obtain ⟨E, hE⟩ := envOf [] [] [] (.nil) (by intro e he; simp at he)
        exact key _ E _ (fun μ => by letI : Facts := ⟨[], []⟩; letI : Env := E; exact .cons (.res .u8 h0) (.cons (.bool true) (.cons (.res .u8 h2) .nil))) k5_t_0
      · obtain ⟨E, hE⟩ := envOf [] [] [] (.nil) (by intro e he; simp at he)
        exact key _ E _ (fun μ => by letI : Facts := ⟨[], []⟩; letI : Env := E; exact .cons (.res .u8 h0) (.cons (.bool true) (.cons (.res .u8 h2) .nil))) k5_t_1
      · obtain ⟨E, hE⟩ := envOf [] [] [] (.nil) (by intro e he; simp at he)
        exact key _ E _ (fun μ => by letI : Facts := ⟨[], []⟩; letI : Env := E; exact .cons (.res .u8 h0) (.cons (.bool true) (.cons (.res .u8 h2) .nil))) k5_t_2
      · obtain ⟨E, hE⟩ := envOf [] [] [] (.nil) (by intro e he; simp at he)
        exact key _ E _ (fun μ => by letI : Facts := ⟨[], []⟩; letI : Env := E; exact .cons (.res .u8 h0) (.cons (.bool true) (.cons (.res .u8 h2) .nil))) k5_t_3
      · obtain ⟨E, hE⟩ := envOf [] [] [] (.nil) (by intro e he; simp at he)
        exact key _ E _ (fun μ => by letI : Facts := ⟨[], []⟩; letI : Env := E; exact .cons (.res .u8 h0) (.cons (.bool true) (.cons (.res .u8 h2) .nil))) k5_t_4
      · obtain ⟨E, hE⟩ := envOf [] [] [] (.nil) (by intro e he; simp at he)
        exact key _ E _ (fun μ => by letI : Facts := ⟨[], []⟩; letI : Env := E; exact .cons (.res .u8 h0) (.cons (.bool true) (.cons (.res .u8 h2) .nil))) k5_t_5
      · obtain ⟨E, hE⟩ := envOf [] [] [] (.nil) (by intro e he; simp at he)
        exact key _ E _ (fun μ => by letI : Facts := ⟨[], []⟩; letI : Env := E; exact .cons (.res .u8 h0) (.cons (.bool true) (.cons (.res .u8 h2) .nil))) k5_t_6
      · obtain ⟨E, hE⟩ := envOf [] [] [] (.nil) (by intro e he; simp at he)
        exact key _ E _ (fun μ => by letI : Facts := ⟨[], []⟩; letI : Env := E; exact .cons (.res .u8 h0) (.cons (.bool true) (.cons (.res .u8 h2) .nil))) k5_t_7
      · obtain ⟨E, hE⟩ := envOf [(8, 15), (0, 15)] [] [(n2 : Int) % 16, (n2 : Int) / 16] (.cons (⟨by omega, by omega⟩) (.cons (⟨by omega, by omega⟩) .nil)) (by intro e he; simp at he)
        exact key _ E _ (fun μ => by letI : Facts := ⟨[(8, 15), (0, 15)], []⟩; letI : Env := E; exact .cons (.res .u8 h0) (.cons (.bool true) (.cons (.sym .u8 (by rw [hE]; simp; omega)) .nil))) k5_t_8
  · cases a1
    · rcases ho2 with h2 | h2 | h2 | h2 | h2 | h2 | h2 | h2 | h2
      · obtain ⟨E, hE⟩ := envOf [] [] [] (.nil) (by intro e he; simp at he)
        exact key _ E _ (fun μ => by letI : Facts := ⟨[], []⟩; letI : Env := E; exact .cons (.res .u8 h0) (.cons (.bool false) (.cons (.res .u8 h2) .nil))) k6_f_0
      · obtain ⟨E, hE⟩ := envOf [] [] [] (.nil) (by intro e he; simp at he)
        exact key _ E _ (fun μ => by letI : Facts := ⟨[], []⟩; letI : Env := E; exact .cons (.res .u8 h0) (.cons (.bool false) (.cons (.res .u8 h2) .nil))) k6_f_1
      · obtain ⟨E, hE⟩ := envOf [] [] [] (.nil) (by intro e he; simp at he)
        exact key _ E _ (fun μ => by letI : Facts := ⟨[], []⟩; letI : Env := E; exact .cons (.res .u8 h0) (.cons (.bool false) (.cons (.res .u8 h2) .nil))) k6_f_2
      · obtain ⟨E, hE⟩ := envOf [] [] [] (.nil) (by intro e he; simp at he)
        exact key _ E _ (fun μ => by letI : Facts := ⟨[], []⟩; letI : Env := E; exact .cons (.res .u8 h0) (.cons (.bool false) (.cons (.res .u8 h2) .nil))) k6_f_3
      · obtain ⟨E, hE⟩ := envOf [] [] [] (.nil) (by intro e he; simp at he)
        exact key _ E _ (fun μ => by letI : Facts := ⟨[], []⟩; letI : Env := E; exact .cons (.res .u8 h0) (.cons (.bool false) (.cons (.res .u8 h2) .nil))) k6_f_4
      · obtain ⟨E, hE⟩ := envOf [] [] [] (.nil) (by intro e he; simp at he)
        exact key _ E _ (fun μ => by letI : Facts := ⟨[], []⟩; letI : Env := E; exact .cons (.res .u8 h0) (.cons (.bool false) (.cons (.res .u8 h2) .nil))) k6_f_5
      · obtain ⟨E, hE⟩ := envOf [] [] [] (.nil) (by intro e he; simp at he)
        exact key _ E _ (fun μ => by letI : Facts := ⟨[], []⟩; letI : Env := E; exact .cons (.res .u8 h0) (.cons (.bool false) (.cons (.res .u8 h2) .nil))) k6_f_6
      · obtain ⟨E, hE⟩ := envOf [] [] [] (.nil) (by intro e he; simp at he)
        exact key _ E _ (fun μ => by letI : Facts := ⟨[], []⟩; letI : Env := E; exact .cons (.res .u8 h0) (.cons (.bool false) (.cons (.res .u8 h2) .nil))) k6_f_7
      · obtain ⟨E, hE⟩ := envOf [(8, 15), (0, 15)] [] [(n2 : Int) % 16, (n2 : Int) / 16] (.cons (⟨by omega, by omega⟩) (.cons (⟨by omega, by omega⟩) .nil)) (by intro e he; simp at he)
        exact key _ E _ (fun μ => by letI : Facts := ⟨[(8, 15), (0, 15)], []⟩; letI : Env := E; exact .cons (.res .u8 h0) (.cons (.bool false) (.cons (.sym .u8 (by rw [hE]; simp; omega)) .nil))) k6_f_8
    · rcases ho2 with h2 | h2 | h2 | h2 | h2 | h2 | h2 | h2 | h2
      · obtain ⟨E, hE⟩ := envOf [] [] [] (.nil) (by intro e he; simp at he)
        exact key _ E _ (fun μ => by letI : Facts := ⟨[], []⟩; letI : Env := E; exact .cons (.res .u8 h0) (.cons (.bool true) (.cons (.res .u8 h2) .nil))) k6_t_0
      · obtain ⟨E, hE⟩ := envOf [] [] [] (.nil) (by intro e he; simp at he)
        exact key _ E _ (fun μ => by letI : Facts := ⟨[], []⟩; letI : Env := E; exact .cons (.res .u8 h0) (.cons (.bool true) (.cons (.res .u8 h2) .nil))) k6_t_1
      · obtain ⟨E, hE⟩ := envOf [] [] [] (.nil) (by intro e he; simp at he)
        exact key _ E _ (fun μ => by letI : Facts := ⟨[], []⟩; letI : Env := E; exact .cons (.res .u8 h0) (.cons (.bool true) (.cons (.res .u8 h2) .nil))) k6_t_2
      · obtain ⟨E, hE⟩ := envOf [] [] [] (.nil) (by intro e he; simp at he)
        exact key _ E _ (fun μ => by letI : Facts := ⟨[], []⟩; letI : Env := E; exact .cons (.res .u8 h0) (.cons (.bool true) (.cons (.res .u8 h2) .nil))) k6_t_3
      · obtain ⟨E, hE⟩ := envOf [] [] [] (.nil) (by intro e he; simp at he)
        exact key _ E _ (fun μ => by letI : Facts := ⟨[], []⟩; letI : Env := E; exact .cons (.res .u8 h0) (.cons (.bool true) (.cons (.res .u8 h2) .nil))) k6_t_4
      · obtain ⟨E, hE⟩ := envOf [] [] [] (.nil) (by intro e he; simp at he)
        exact key _ E _ (fun μ => by letI : Facts := ⟨[], []⟩; letI : Env := E; exact .cons (.res .u8 h0) (.cons (.bool true) (.cons (.res .u8 h2) .nil))) k6_t_5
      · obtain ⟨E, hE⟩ := envOf [] [] [] (.nil) (by intro e he; simp at he)
        exact key _ E _ (fun μ => by letI : Facts := ⟨[], []⟩; letI : Env := E; exact .cons (.res .u8 h0) (.cons (.bool true) (.cons (.res .u8 h2) .nil))) k6_t_6
      · obtain ⟨E, hE⟩ := envOf [] [] [] (.nil) (by intro e he; simp at he)
        exact key _ E _ (fun μ => by letI : Facts := ⟨[], []⟩; letI : Env := E; exact .cons (.res .u8 h0) (.cons (.bool true) (.cons (.res .u8 h2) .nil))) k6_t_7
      · obtain ⟨E, hE⟩ := envOf [(8, 15), (0, 15)] [] [(n2 : Int) % 16, (n2 : Int) / 16] (.cons (⟨by omega, by omega⟩) (.cons (⟨by omega, by omega⟩) .nil)) (by intro e he; simp at he)
        exact key _ E _ (fun μ => by letI : Facts := ⟨[(8, 15), (0, 15)], []⟩; letI : Env := E; exact .cons (.res .u8 h0) (.cons (.bool true) (.cons (.sym .u8 (by rw [hE]; simp; omega)) .nil))) k6_t_8
  · cases a1
    · rcases ho2 with h2 | h2 | h2 | h2 | h2 | h2 | h2 | h2 | h2
      · obtain ⟨E, hE⟩ := envOf [] [] [] (.nil) (by intro e he; simp at he)
        exact key _ E _ (fun μ => by letI : Facts := ⟨[], []⟩; letI : Env := E; exact .cons (.res .u8 h0) (.cons (.bool false) (.cons (.res .u8 h2) .nil))) k7_f_0
      · obtain ⟨E, hE⟩ := envOf [] [] [] (.nil) (by intro e he; simp at he)
        exact key _ E _ (fun μ => by letI : Facts := ⟨[], []⟩; letI : Env := E; exact .cons (.res .u8 h0) (.cons (.bool false) (.cons (.res .u8 h2) .nil))) k7_f_1
      · obtain ⟨E, hE⟩ := envOf [] [] [] (.nil) (by intro e he; simp at he)
        exact key _ E _ (fun μ => by letI : Facts := ⟨[], []⟩; letI : Env := E; exact .cons (.res .u8 h0) (.cons (.bool false) (.cons (.res .u8 h2) .nil))) k7_f_2
      · obtain ⟨E, hE⟩ := envOf [] [] [] (.nil) (by intro e he; simp at he)
        exact key _ E _ (fun μ => by letI : Facts := ⟨[], []⟩; letI : Env := E; exact .cons (.res .u8 h0) (.cons (.bool false) (.cons (.res .u8 h2) .nil))) k7_f_3
      · obtain ⟨E, hE⟩ := envOf [] [] [] (.nil) (by intro e he; simp at he)
        exact key _ E _ (fun μ => by letI : Facts := ⟨[], []⟩; letI : Env := E; exact .cons (.res .u8 h0) (.cons (.bool false) (.cons (.res .u8 h2) .nil))) k7_f_4
      · obtain ⟨E, hE⟩ := envOf [] [] [] (.nil) (by intro e he; simp at he)
        exact key _ E _ (fun μ => by letI : Facts := ⟨[], []⟩; letI : Env := E; exact .cons (.res .u8 h0) (.cons (.bool false) (.cons (.res .u8 h2) .nil))) k7_f_5
      · obtain ⟨E, hE⟩ := envOf [] [] [] (.nil) (by intro e he; simp at he)
        exact key _ E _ (fun μ => by letI : Facts := ⟨[], []⟩; letI : Env := E; exact .cons (.res .u8 h0) (.cons (.bool false) (.cons (.res .u8 h2) .nil))) k7_f_6
      · obtain ⟨E, hE⟩ := envOf [] [] [] (.nil) (by intro e he; simp at he)
        exact key _ E _ (fun μ => by letI : Facts := ⟨[], []⟩; letI : Env := E; exact .cons (.res .u8 h0) (.cons (.bool false) (.cons (.res .u8 h2) .nil))) k7_f_7
      · obtain ⟨E, hE⟩ := envOf [(8, 15), (0, 15)] [] [(n2 : Int) % 16, (n2 : Int) / 16] (.cons (⟨by omega, by omega⟩) (.cons (⟨by omega, by omega⟩) .nil)) (by intro e he; simp at he)
        exact key _ E _ (fun μ => by letI : Facts := ⟨[(8, 15), (0, 15)], []⟩; letI : Env := E; exact .cons (.res .u8 h0) (.cons (.bool false) (.cons (.sym .u8 (by rw [hE]; simp; omega)) .nil))) k7_f_8
    · rcases ho2 with h2 | h2 | h2 | h2 | h2 | h2 | h2 | h2 | h2
      · obtain ⟨E, hE⟩ := envOf [] [] [] (.nil) (by intro e he; simp at he)
        exact key _ E _ (fun μ => by letI : Facts := ⟨[], []⟩; letI : Env := E; exact .cons (.res .u8 h0) (.cons (.bool true) (.cons (.res .u8 h2) .nil))) k7_t_0
      · obtain ⟨E, hE⟩ := envOf [] [] [] (.nil) (by intro e he; simp at he)
        exact key _ E _ (fun μ => by letI : Facts := ⟨[], []⟩; letI : Env := E; exact .cons (.res .u8 h0) (.cons (.bool true) (.cons (.res .u8 h2) .nil))) k7_t_1
      · obtain ⟨E, hE⟩ := envOf [] [] [] (.nil) (by intro e he; simp at he)
        exact key _ E _ (fun μ => by letI : Facts := ⟨[], []⟩; letI : Env := E; exact .cons (.res .u8 h0) (.cons (.bool true) (.cons (.res .u8 h2) .nil))) k7_t_2
      · obtain ⟨E, hE⟩ := envOf [] [] [] (.nil) (by intro e he; simp at he)
        exact key _ E _ (fun μ => by letI : Facts := ⟨[], []⟩; letI : Env := E; exact .cons (.res .u8 h0) (.cons (.bool true) (.cons (.res .u8 h2) .nil))) k7_t_3
      · obtain ⟨E, hE⟩ := envOf [] [] [] (.nil) (by intro e he; simp at he)
        exact key _ E _ (fun μ => by letI : Facts := ⟨[], []⟩; letI : Env := E; exact .cons (.res .u8 h0) (.cons (.bool true) (.cons (.res .u8 h2) .nil))) k7_t_4
      · obtain ⟨E, hE⟩ := envOf [] [] [] (.nil) (by intro e he; simp at he)
        exact key _ E _ (fun μ => by letI : Facts := ⟨[], []⟩; letI : Env := E; exact .cons (.res .u8 h0) (.cons (.bool true) (.cons (.res .u8 h2) .nil))) k7_t_5
      · obtain ⟨E, hE⟩ := envOf [] [] [] (.nil) (by intro e he; simp at he)
        exact key _ E _ (fun μ => by letI : Facts := ⟨[], []⟩; letI : Env := E; exact .cons (.res .u8 h0) (.cons (.bool true) (.cons (.res .u8 h2) .nil))) k7_t_6
      · obtain ⟨E, hE⟩ := envOf [] [] [] (.nil) (by intro e he; simp at he)
        exact key _ E _ (fun μ => by letI : Facts := ⟨[], []⟩; letI : Env := E; exact .cons (.res .u8 h0) (.cons (.bool true) (.cons (.res .u8 h2) .nil))) k7_t_7
      · obtain ⟨E, hE⟩ := envOf [(8, 15), (0, 15)] [] [(n2 : Int) % 16, (n2 : Int) / 16] (.cons (⟨by omega, by omega⟩) (.cons (⟨by omega, by omega⟩) .nil)) (by intro e he; simp at he)
        exact key _ E _ (fun μ => by letI : Facts := ⟨[(8, 15), (0, 15)], []⟩; letI : Env := E; exact .cons (.res .u8 h0) (.cons (.bool true) (.cons (.sym .u8 (by rw [hE]; simp; omega)) .nil))) k7_t_8

/-! ### THE ROW's STEP: WRITTEN OUT: LEAVE IT -/
set_option maxRecDepth 100000 in
theorem lifted (os : Os) (started : os.Started) (H : Type) (enc : TypeId × Value → H) :
    ReturnsInHanded {} Try.checked os 10 .any (Rows.serviceOneshotsSpec.pre6 enc Try.prog Try.f10 Rows.serviceOneshotsRow.domain false) (Rows.serviceOneshotsSpec.post enc Try.prog Try.f10 false true false false) := by
  refine of_shaped (C := Try.checked) own started (by kernel_rfl) Try.func10
    (ChangeSpec.witness6 (enc := enc) (C := Try.checked) false ⟨#[], #[.int .u8 0, .bool false, .int .u8 0], []⟩ 8 (by kernel_rfl) (by kernel_rfl) (by kernel_rfl) (by kernel_rfl)) ?_
  intro W base args ds gs before hshape hval0 hW
  have hval : ∀ (j : Nat) t v, Try.f10.params[j]? = some t → args[j]? = some v → Value.okWide Try.prog W .any base t v := hval0
  have hW' := hW
  obtain ⟨p, q, hA0, hV, rfl, hfz, hnd⟩ := hW
  have hA : DataW.TrodAll enc Try.prog W 0 (fun _ => true) true Try.f10.params.toList args.toList ds p := hA0
  rw [Try.params10] at hA hval
  obtain ⟨v0, vs0, d0, ds0, p0, q0, hargs, rfl, rfl, h0, r0⟩ := trodAll_cons hA
  obtain ⟨v1, vs1, d1, ds1, p1, q1, rfl, rfl, rfl, h1, r1⟩ := trodAll_cons r0
  obtain ⟨v2, vs2, d2, ds2, p2, q2, rfl, rfl, rfl, h2, r2⟩ := trodAll_cons r1
  obtain ⟨rfl, rfl, rfl⟩ := trodAll_nil r2
  obtain rfl : args = #[v0, v1, v2] := by cases args; simp_all
  obtain ⟨rfl, rfl⟩ := trodVars_none hV
  obtain ⟨a0, rfl, rfl, rfl, w0⟩ := open_int Try.underlying5 (hval 0 5 v0 rfl rfl) h0
  obtain ⟨a1, rfl, rfl, rfl⟩ := open_bool Try.underlying4 (hval 1 4 v1 rfl rfl) h1
  obtain ⟨a2, rfl, rfl, rfl, w2⟩ := open_int Try.underlying5 (hval 2 5 v2 rfl rfl) h2
  clear hA0 hval0
  simp only [List.append_nil] at hW'
  refine (walk a0 a1 a2 w0 w2 W hshape).mono fun e W' ⟨he, hg⟩ => ?_
  subst he
  exact ⟨_, rfl, _, _, _, [], _, [], hW', trodAll_mk1 (shut_bool Try.underlying4 _), (trodAll_cons_mk (shut_int Try.underlying5 w0) (trodAll_cons_mk (shut_bool Try.underlying4 _) (trodAll_cons_mk (shut_int Try.underlying5 w2) trodAll_mk0))), rfl, hg.frame _, fun h => by cases h⟩

theorem over : Rows.serviceOneshotsRow.holds Try.pinned (OpenSpec.ofChange Rows.serviceOneshotsSpec) :=
  OpenClaim.holds_of_wide 10 Try.f10 rfl rfl rfl rfl rfl rfl rfl ⟨rfl, rfl, rfl, rfl, rfl⟩ rfl rfl rfl rfl rfl (by kernel_rfl) Try.func10 (by kernel_rfl)
    (of_decide_eq_true (by kernel_rfl)) (by unfold Func.isWrapper; first | (rw [if_pos (by decide +kernel)]; kernel_rfl) | (rw [if_neg (by decide +kernel)]; exact ⟨rfl, rfl⟩))
    (fun os started H enc _ => lifted os started H enc)

theorem proved : Rows.ServiceOneshotsSaid :=
  over
#print axioms proved
end Go.Proofs.Ytnoddedgkgkfhaa.serviceOneshots
