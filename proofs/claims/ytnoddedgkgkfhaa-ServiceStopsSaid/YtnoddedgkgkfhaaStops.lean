/- The statement 'ServiceStops' holds of the given program: whatever the input, the law's function returns true. No condition. -/
import Derived.Test.YtnoddedgkgkfhaaRows
import Derived.WalkKit
import Derived.ProofKit
import Derived.OpenShut
import Derived.ShutString
import Derived.Test.YtnoddedgkgkfhaaEv5
import Derived.Test.YtnoddedgkgkfhaaStopsK0
import Derived.Test.YtnoddedgkgkfhaaStopsK1
import Derived.Test.YtnoddedgkgkfhaaStopsK2
import Derived.Test.YtnoddedgkgkfhaaStopsK3
import Derived.Test.YtnoddedgkgkfhaaStopsK4
import Derived.Test.YtnoddedgkgkfhaaStopsK5
import Derived.Test.YtnoddedgkgkfhaaStopsK6
import Derived.Test.YtnoddedgkgkfhaaStopsK7
namespace Go.Proofs.Ytnoddedgkgkfhaa.serviceStops
open Go.Ev
open Go.ChangeShapes Go.WideShapes Go.ChangeAt Go.RowKit
open Go.ChangeMaps (open_string shut_string)
set_option linter.unusedVariables false

theorem own : ownKnob Try.prog.godebug = none := by kernel_rfl
theorem laidOut : laidOutB Try.prog = true := by kernel_rfl

/-- WHAT THE WALK IS TOLD OF A SLICE OF INTEGERS THAT CAME IN: it is nil; or it leads to a row of 'cap' cells, the numbers 'zs' (the first 'len' are its elements, the rest its spare room), each fitting its kind. -/
def IsRow (k : IntKind) (w : World) (a : Option Addr) (len cap : Nat) (zs : List Int) : Prop :=
  (a = none ∧ len = 0 ∧ cap = 0 ∧ zs = []) ∨
  ∃ x, a = some x ∧ len ≤ cap ∧ cap ≤ maxLen ∧ zs.length = cap ∧ (∀ i, i < zs.length → w.cell? (x.add i) = some (.int k (zs.getD i 0))) ∧ ∀ n ∈ zs, (Lit.int k n).wf = true

set_option maxHeartbeats 20000000 in
theorem walk (a0 : Int) (a1 : Option Addr) (len1 cap1 : Nat) (z1 : List Int) (a2 : Bool) (w : World) (w0 : (Lit.int .u8 a0).wf = true) (w1 : IsRow .u8 w a1 len1 cap1 z1) (hs : w.ShapedOpen Try.prog) :
    Calls Try.prog 11 #[.int .u8 a0, .slice a1 len1 cap1, .bool a2] w fun e w' => e = .returned (.bool true) ∧ Below w.heap.size w w' := by
  have hmix : Try.prog.follows .mixedOrders = true := Try.checked.mixed
  obtain ⟨n0, rfl⟩ : ∃ n : Nat, a0 = n := ⟨a0.toNat, by
    have := w0
    simp [Lit.wf, IntKind.min, IntKind.max, IntKind.signed, IntKind.bits] at this
    omega⟩
  have hb0 : 0 ≤ (n0 : Int) ∧ (n0 : Int) ≤ 255 := by
    have := w0
    simp [Lit.wf, IntKind.min, IntKind.max, IntKind.signed, IntKind.bits] at this
    omega
  have hm0 : maxLen = 9223372036854775807 := by decide
  have key : ∀ (F : Facts) (E : @Env F) (l : List AV), @SumsOK F E Try.prog → (∀ μ, @VRs F E μ l [.int .u8 (n0 : Int), .slice a1 len1 cap1, .bool a2]) → isTrue (@Ev.run F Try.prog 100000 11 l) = true →
      Calls Try.prog 11 #[.int .u8 (n0 : Int), .slice a1 len1 cap1, .bool a2] w fun e w' => e = .returned (.bool true) ∧ Below w.heap.size w w' := fun F E l hS hv h =>
    run_calls (F := F) (E := E) hS hmix (shaped_size hs) (enter_of Try.func11 (by kernel_rfl) (by kernel_rfl)) hv h
  have ho0 : n0 % 8 = 0 ∨ n0 % 8 = 1 ∨ n0 % 8 = 2 ∨ n0 % 8 = 3 ∨ n0 % 8 = 4 ∨ n0 % 8 = 5 ∨ n0 % 8 = 6 ∨ n0 % 8 = 7 := by omega
  rcases ho0 with h0 | h0 | h0 | h0 | h0 | h0 | h0 | h0
  · rcases w1 with ⟨rfl, rfl, rfl, rfl⟩ | ⟨x1, rfl, hl1, hm1, hz01, hc1, hwz1⟩
    · cases a2
      · obtain ⟨E, hE⟩ := envOf [] [] noSum [] (.nil) (by intro e he; simp at he)
        exact key _ E _ noSums (fun μ => by letI : Facts := ⟨[], [], noSum⟩; letI : Env := E; exact .cons (.res .u8 h0) (.cons (.nils) (.cons (.bool false) .nil))) k0_Lnil_f
      · obtain ⟨E, hE⟩ := envOf [] [] noSum [] (.nil) (by intro e he; simp at he)
        exact key _ E _ noSums (fun μ => by letI : Facts := ⟨[], [], noSum⟩; letI : Env := E; exact .cons (.res .u8 h0) (.cons (.nils) (.cons (.bool true) .nil))) k0_Lnil_t
    · have hz1 : ∀ i, i < z1.length → 0 ≤ z1.getD i 0 ∧ z1.getD i 0 ≤ 255 := fun i hi => by
        have := hwz1 (z1.getD i 0) (by rw [List.getD_eq_getElem?_getD, List.getElem?_eq_getElem hi]; exact List.getElem_mem hi)
        simp [Lit.wf, IntKind.min, IntKind.max, IntKind.signed, IntKind.bits] at this
        simp; omega
      rcases (by omega : 0 ≤ len1) with hlen
      · cases a2
        · obtain ⟨E, hE⟩ := envOf [(0, 9223372036854775807)] [] noSum [(len1 : Int)] (.cons (⟨by omega, by omega⟩) .nil) (by intro e he; simp at he)
          exact key _ E _ noSums (fun μ => by letI : Facts := ⟨[(0, 9223372036854775807)], [], noSum⟩; letI : Env := E; exact .cons (.res .u8 h0) (.cons (.slx (fun h0 => absurd h0 (by omega)) (by rw [hE]; simp) (by omega)) (.cons (.bool false) .nil))) k0_L0up_f
        · obtain ⟨E, hE⟩ := envOf [(0, 9223372036854775807)] [] noSum [(len1 : Int)] (.cons (⟨by omega, by omega⟩) .nil) (by intro e he; simp at he)
          exact key _ E _ noSums (fun μ => by letI : Facts := ⟨[(0, 9223372036854775807)], [], noSum⟩; letI : Env := E; exact .cons (.res .u8 h0) (.cons (.slx (fun h0 => absurd h0 (by omega)) (by rw [hE]; simp) (by omega)) (.cons (.bool true) .nil))) k0_L0up_t
  · rcases w1 with ⟨rfl, rfl, rfl, rfl⟩ | ⟨x1, rfl, hl1, hm1, hz01, hc1, hwz1⟩
    · cases a2
      · obtain ⟨E, hE⟩ := envOf [] [] noSum [] (.nil) (by intro e he; simp at he)
        exact key _ E _ noSums (fun μ => by letI : Facts := ⟨[], [], noSum⟩; letI : Env := E; exact .cons (.res .u8 h0) (.cons (.nils) (.cons (.bool false) .nil))) k1_Lnil_f
      · obtain ⟨E, hE⟩ := envOf [] [] noSum [] (.nil) (by intro e he; simp at he)
        exact key _ E _ noSums (fun μ => by letI : Facts := ⟨[], [], noSum⟩; letI : Env := E; exact .cons (.res .u8 h0) (.cons (.nils) (.cons (.bool true) .nil))) k1_Lnil_t
    · have hz1 : ∀ i, i < z1.length → 0 ≤ z1.getD i 0 ∧ z1.getD i 0 ≤ 255 := fun i hi => by
        have := hwz1 (z1.getD i 0) (by rw [List.getD_eq_getElem?_getD, List.getElem?_eq_getElem hi]; exact List.getElem_mem hi)
        simp [Lit.wf, IntKind.min, IntKind.max, IntKind.signed, IntKind.bits] at this
        simp; omega
      rcases (by omega : len1 ≤ 0 ∨ 1 ≤ len1) with hlen | hlen
      · cases a2
        · obtain ⟨E, hE⟩ := envOf [(0, 0)] [] noSum [(len1 : Int)] (.cons (⟨by omega, by omega⟩) .nil) (by intro e he; simp at he)
          exact key _ E _ noSums (fun μ => by letI : Facts := ⟨[(0, 0)], [], noSum⟩; letI : Env := E; exact .cons (.res .u8 h0) (.cons (.slx (fun h0 => absurd h0 (by omega)) (by rw [hE]; simp) (by omega)) (.cons (.bool false) .nil))) k1_Lm0_f
        · obtain ⟨E, hE⟩ := envOf [(0, 0)] [] noSum [(len1 : Int)] (.cons (⟨by omega, by omega⟩) .nil) (by intro e he; simp at he)
          exact key _ E _ noSums (fun μ => by letI : Facts := ⟨[(0, 0)], [], noSum⟩; letI : Env := E; exact .cons (.res .u8 h0) (.cons (.slx (fun h0 => absurd h0 (by omega)) (by rw [hE]; simp) (by omega)) (.cons (.bool true) .nil))) k1_Lm0_t
      · cases a2
        · obtain ⟨E, hE⟩ := envOf [(0, 255), (1, 9223372036854775807)] [] noSum [z1.getD 0 0, (len1 : Int)] (.cons (hz1 0 (by omega)) (.cons (⟨by omega, by omega⟩) .nil)) (by intro e he; simp at he)
          letI : Facts := ⟨[(0, 255), (1, 9223372036854775807)], [], noSum⟩
          letI : Env := E
          exact slice_calls noSums hmix (shaped_size hs) (G := 0) (by kernel_rfl) (enter_of Try.func11 (by kernel_rfl) (by kernel_rfl)) (n := 1) (by omega) (by omega) hc1 (cells := [(.sym .u8 0 [(0, 1)])]) rfl
            (by
              intro i v hi
              have hlt : i < 1 := by simpa using (List.getElem?_eq_some_iff.1 hi).1
              rcases (by omega : i = 0) with rfl <;> (simp at hi; subst hi; exact ⟨rfl, fun μ => .sym .u8 (by rw [hE]; simp)⟩))
            (fun μ hμ => .cons (.res .u8 h0) (.cons (.slx (fun h0 => hμ h0) (by rw [hE]; simp) (by omega)) (.cons (.bool false) .nil))) k1_L1up_f
        · obtain ⟨E, hE⟩ := envOf [(0, 255), (1, 9223372036854775807)] [] noSum [z1.getD 0 0, (len1 : Int)] (.cons (hz1 0 (by omega)) (.cons (⟨by omega, by omega⟩) .nil)) (by intro e he; simp at he)
          letI : Facts := ⟨[(0, 255), (1, 9223372036854775807)], [], noSum⟩
          letI : Env := E
          exact slice_calls noSums hmix (shaped_size hs) (G := 0) (by kernel_rfl) (enter_of Try.func11 (by kernel_rfl) (by kernel_rfl)) (n := 1) (by omega) (by omega) hc1 (cells := [(.sym .u8 0 [(0, 1)])]) rfl
            (by
              intro i v hi
              have hlt : i < 1 := by simpa using (List.getElem?_eq_some_iff.1 hi).1
              rcases (by omega : i = 0) with rfl <;> (simp at hi; subst hi; exact ⟨rfl, fun μ => .sym .u8 (by rw [hE]; simp)⟩))
            (fun μ hμ => .cons (.res .u8 h0) (.cons (.slx (fun h0 => hμ h0) (by rw [hE]; simp) (by omega)) (.cons (.bool true) .nil))) k1_L1up_t
  · rcases w1 with ⟨rfl, rfl, rfl, rfl⟩ | ⟨x1, rfl, hl1, hm1, hz01, hc1, hwz1⟩
    · cases a2
      · obtain ⟨E, hE⟩ := envOf [] [] noSum [] (.nil) (by intro e he; simp at he)
        exact key _ E _ noSums (fun μ => by letI : Facts := ⟨[], [], noSum⟩; letI : Env := E; exact .cons (.res .u8 h0) (.cons (.nils) (.cons (.bool false) .nil))) k2_Lnil_f
      · obtain ⟨E, hE⟩ := envOf [] [] noSum [] (.nil) (by intro e he; simp at he)
        exact key _ E _ noSums (fun μ => by letI : Facts := ⟨[], [], noSum⟩; letI : Env := E; exact .cons (.res .u8 h0) (.cons (.nils) (.cons (.bool true) .nil))) k2_Lnil_t
    · have hz1 : ∀ i, i < z1.length → 0 ≤ z1.getD i 0 ∧ z1.getD i 0 ≤ 255 := fun i hi => by
        have := hwz1 (z1.getD i 0) (by rw [List.getD_eq_getElem?_getD, List.getElem?_eq_getElem hi]; exact List.getElem_mem hi)
        simp [Lit.wf, IntKind.min, IntKind.max, IntKind.signed, IntKind.bits] at this
        simp; omega
      rcases (by omega : len1 ≤ 1 ∨ 2 ≤ len1) with hlen | hlen
      · cases a2
        · obtain ⟨E, hE⟩ := envOf [(0, 1)] [] noSum [(len1 : Int)] (.cons (⟨by omega, by omega⟩) .nil) (by intro e he; simp at he)
          exact key _ E _ noSums (fun μ => by letI : Facts := ⟨[(0, 1)], [], noSum⟩; letI : Env := E; exact .cons (.res .u8 h0) (.cons (.slx (fun h0 => absurd h0 (by omega)) (by rw [hE]; simp) (by omega)) (.cons (.bool false) .nil))) k2_Lm1_f
        · obtain ⟨E, hE⟩ := envOf [(0, 1)] [] noSum [(len1 : Int)] (.cons (⟨by omega, by omega⟩) .nil) (by intro e he; simp at he)
          exact key _ E _ noSums (fun μ => by letI : Facts := ⟨[(0, 1)], [], noSum⟩; letI : Env := E; exact .cons (.res .u8 h0) (.cons (.slx (fun h0 => absurd h0 (by omega)) (by rw [hE]; simp) (by omega)) (.cons (.bool true) .nil))) k2_Lm1_t
      · cases a2
        · obtain ⟨E, hE⟩ := envOf [(0, 255), (0, 255), (2, 9223372036854775807)] [] noSum [z1.getD 0 0, z1.getD 1 0, (len1 : Int)] (.cons (hz1 0 (by omega)) (.cons (hz1 1 (by omega)) (.cons (⟨by omega, by omega⟩) .nil))) (by intro e he; simp at he)
          letI : Facts := ⟨[(0, 255), (0, 255), (2, 9223372036854775807)], [], noSum⟩
          letI : Env := E
          exact slice_calls noSums hmix (shaped_size hs) (G := 0) (by kernel_rfl) (enter_of Try.func11 (by kernel_rfl) (by kernel_rfl)) (n := 2) (by omega) (by omega) hc1 (cells := [(.sym .u8 0 [(0, 1)]), (.sym .u8 0 [(1, 1)])]) rfl
            (by
              intro i v hi
              have hlt : i < 2 := by simpa using (List.getElem?_eq_some_iff.1 hi).1
              rcases (by omega : i = 0 ∨ i = 1) with rfl | rfl <;> (simp at hi; subst hi; exact ⟨rfl, fun μ => .sym .u8 (by rw [hE]; simp)⟩))
            (fun μ hμ => .cons (.res .u8 h0) (.cons (.slx (fun h0 => hμ h0) (by rw [hE]; simp) (by omega)) (.cons (.bool false) .nil))) k2_L2up_f
        · obtain ⟨E, hE⟩ := envOf [(0, 255), (0, 255), (2, 9223372036854775807)] [] noSum [z1.getD 0 0, z1.getD 1 0, (len1 : Int)] (.cons (hz1 0 (by omega)) (.cons (hz1 1 (by omega)) (.cons (⟨by omega, by omega⟩) .nil))) (by intro e he; simp at he)
          letI : Facts := ⟨[(0, 255), (0, 255), (2, 9223372036854775807)], [], noSum⟩
          letI : Env := E
          exact slice_calls noSums hmix (shaped_size hs) (G := 0) (by kernel_rfl) (enter_of Try.func11 (by kernel_rfl) (by kernel_rfl)) (n := 2) (by omega) (by omega) hc1 (cells := [(.sym .u8 0 [(0, 1)]), (.sym .u8 0 [(1, 1)])]) rfl
            (by
              intro i v hi
              have hlt : i < 2 := by simpa using (List.getElem?_eq_some_iff.1 hi).1
              rcases (by omega : i = 0 ∨ i = 1) with rfl | rfl <;> (simp at hi; subst hi; exact ⟨rfl, fun μ => .sym .u8 (by rw [hE]; simp)⟩))
            (fun μ hμ => .cons (.res .u8 h0) (.cons (.slx (fun h0 => hμ h0) (by rw [hE]; simp) (by omega)) (.cons (.bool true) .nil))) k2_L2up_t
  · rcases w1 with ⟨rfl, rfl, rfl, rfl⟩ | ⟨x1, rfl, hl1, hm1, hz01, hc1, hwz1⟩
    · cases a2
      · obtain ⟨E, hE⟩ := envOf [] [] noSum [] (.nil) (by intro e he; simp at he)
        exact key _ E _ noSums (fun μ => by letI : Facts := ⟨[], [], noSum⟩; letI : Env := E; exact .cons (.res .u8 h0) (.cons (.nils) (.cons (.bool false) .nil))) k3_Lnil_f
      · obtain ⟨E, hE⟩ := envOf [] [] noSum [] (.nil) (by intro e he; simp at he)
        exact key _ E _ noSums (fun μ => by letI : Facts := ⟨[], [], noSum⟩; letI : Env := E; exact .cons (.res .u8 h0) (.cons (.nils) (.cons (.bool true) .nil))) k3_Lnil_t
    · have hz1 : ∀ i, i < z1.length → 0 ≤ z1.getD i 0 ∧ z1.getD i 0 ≤ 255 := fun i hi => by
        have := hwz1 (z1.getD i 0) (by rw [List.getD_eq_getElem?_getD, List.getElem?_eq_getElem hi]; exact List.getElem_mem hi)
        simp [Lit.wf, IntKind.min, IntKind.max, IntKind.signed, IntKind.bits] at this
        simp; omega
      rcases (by omega : len1 ≤ 2 ∨ 3 ≤ len1) with hlen | hlen
      · cases a2
        · obtain ⟨E, hE⟩ := envOf [(0, 2)] [] noSum [(len1 : Int)] (.cons (⟨by omega, by omega⟩) .nil) (by intro e he; simp at he)
          exact key _ E _ noSums (fun μ => by letI : Facts := ⟨[(0, 2)], [], noSum⟩; letI : Env := E; exact .cons (.res .u8 h0) (.cons (.slx (fun h0 => absurd h0 (by omega)) (by rw [hE]; simp) (by omega)) (.cons (.bool false) .nil))) k3_Lm2_f
        · obtain ⟨E, hE⟩ := envOf [(0, 2)] [] noSum [(len1 : Int)] (.cons (⟨by omega, by omega⟩) .nil) (by intro e he; simp at he)
          exact key _ E _ noSums (fun μ => by letI : Facts := ⟨[(0, 2)], [], noSum⟩; letI : Env := E; exact .cons (.res .u8 h0) (.cons (.slx (fun h0 => absurd h0 (by omega)) (by rw [hE]; simp) (by omega)) (.cons (.bool true) .nil))) k3_Lm2_t
      · cases a2
        · obtain ⟨E, hE⟩ := envOf [(0, 255), (0, 255), (0, 255), (3, 9223372036854775807)] [] noSum [z1.getD 0 0, z1.getD 1 0, z1.getD 2 0, (len1 : Int)] (.cons (hz1 0 (by omega)) (.cons (hz1 1 (by omega)) (.cons (hz1 2 (by omega)) (.cons (⟨by omega, by omega⟩) .nil)))) (by intro e he; simp at he)
          letI : Facts := ⟨[(0, 255), (0, 255), (0, 255), (3, 9223372036854775807)], [], noSum⟩
          letI : Env := E
          exact slice_calls noSums hmix (shaped_size hs) (G := 0) (by kernel_rfl) (enter_of Try.func11 (by kernel_rfl) (by kernel_rfl)) (n := 3) (by omega) (by omega) hc1 (cells := [(.sym .u8 0 [(0, 1)]), (.sym .u8 0 [(1, 1)]), (.sym .u8 0 [(2, 1)])]) rfl
            (by
              intro i v hi
              have hlt : i < 3 := by simpa using (List.getElem?_eq_some_iff.1 hi).1
              rcases (by omega : i = 0 ∨ i = 1 ∨ i = 2) with rfl | rfl | rfl <;> (simp at hi; subst hi; exact ⟨rfl, fun μ => .sym .u8 (by rw [hE]; simp)⟩))
            (fun μ hμ => .cons (.res .u8 h0) (.cons (.slx (fun h0 => hμ h0) (by rw [hE]; simp) (by omega)) (.cons (.bool false) .nil))) k3_L3up_f
        · obtain ⟨E, hE⟩ := envOf [(0, 255), (0, 255), (0, 255), (3, 9223372036854775807)] [] noSum [z1.getD 0 0, z1.getD 1 0, z1.getD 2 0, (len1 : Int)] (.cons (hz1 0 (by omega)) (.cons (hz1 1 (by omega)) (.cons (hz1 2 (by omega)) (.cons (⟨by omega, by omega⟩) .nil)))) (by intro e he; simp at he)
          letI : Facts := ⟨[(0, 255), (0, 255), (0, 255), (3, 9223372036854775807)], [], noSum⟩
          letI : Env := E
          exact slice_calls noSums hmix (shaped_size hs) (G := 0) (by kernel_rfl) (enter_of Try.func11 (by kernel_rfl) (by kernel_rfl)) (n := 3) (by omega) (by omega) hc1 (cells := [(.sym .u8 0 [(0, 1)]), (.sym .u8 0 [(1, 1)]), (.sym .u8 0 [(2, 1)])]) rfl
            (by
              intro i v hi
              have hlt : i < 3 := by simpa using (List.getElem?_eq_some_iff.1 hi).1
              rcases (by omega : i = 0 ∨ i = 1 ∨ i = 2) with rfl | rfl | rfl <;> (simp at hi; subst hi; exact ⟨rfl, fun μ => .sym .u8 (by rw [hE]; simp)⟩))
            (fun μ hμ => .cons (.res .u8 h0) (.cons (.slx (fun h0 => hμ h0) (by rw [hE]; simp) (by omega)) (.cons (.bool true) .nil))) k3_L3up_t
  · rcases w1 with ⟨rfl, rfl, rfl, rfl⟩ | ⟨x1, rfl, hl1, hm1, hz01, hc1, hwz1⟩
    · cases a2
      · obtain ⟨E, hE⟩ := envOf [] [] noSum [] (.nil) (by intro e he; simp at he)
        exact key _ E _ noSums (fun μ => by letI : Facts := ⟨[], [], noSum⟩; letI : Env := E; exact .cons (.res .u8 h0) (.cons (.nils) (.cons (.bool false) .nil))) k4_Lnil_f
      · obtain ⟨E, hE⟩ := envOf [] [] noSum [] (.nil) (by intro e he; simp at he)
        exact key _ E _ noSums (fun μ => by letI : Facts := ⟨[], [], noSum⟩; letI : Env := E; exact .cons (.res .u8 h0) (.cons (.nils) (.cons (.bool true) .nil))) k4_Lnil_t
    · have hz1 : ∀ i, i < z1.length → 0 ≤ z1.getD i 0 ∧ z1.getD i 0 ≤ 255 := fun i hi => by
        have := hwz1 (z1.getD i 0) (by rw [List.getD_eq_getElem?_getD, List.getElem?_eq_getElem hi]; exact List.getElem_mem hi)
        simp [Lit.wf, IntKind.min, IntKind.max, IntKind.signed, IntKind.bits] at this
        simp; omega
      rcases (by omega : len1 ≤ 3 ∨ 4 ≤ len1) with hlen | hlen
      · cases a2
        · obtain ⟨E, hE⟩ := envOf [(0, 3)] [] noSum [(len1 : Int)] (.cons (⟨by omega, by omega⟩) .nil) (by intro e he; simp at he)
          exact key _ E _ noSums (fun μ => by letI : Facts := ⟨[(0, 3)], [], noSum⟩; letI : Env := E; exact .cons (.res .u8 h0) (.cons (.slx (fun h0 => absurd h0 (by omega)) (by rw [hE]; simp) (by omega)) (.cons (.bool false) .nil))) k4_Lm3_f
        · obtain ⟨E, hE⟩ := envOf [(0, 3)] [] noSum [(len1 : Int)] (.cons (⟨by omega, by omega⟩) .nil) (by intro e he; simp at he)
          exact key _ E _ noSums (fun μ => by letI : Facts := ⟨[(0, 3)], [], noSum⟩; letI : Env := E; exact .cons (.res .u8 h0) (.cons (.slx (fun h0 => absurd h0 (by omega)) (by rw [hE]; simp) (by omega)) (.cons (.bool true) .nil))) k4_Lm3_t
      · cases a2
        · obtain ⟨E, hE⟩ := envOf [(0, 255), (0, 255), (0, 255), (0, 255), (4, 9223372036854775807)] [] noSum [z1.getD 0 0, z1.getD 1 0, z1.getD 2 0, z1.getD 3 0, (len1 : Int)] (.cons (hz1 0 (by omega)) (.cons (hz1 1 (by omega)) (.cons (hz1 2 (by omega)) (.cons (hz1 3 (by omega)) (.cons (⟨by omega, by omega⟩) .nil))))) (by intro e he; simp at he)
          letI : Facts := ⟨[(0, 255), (0, 255), (0, 255), (0, 255), (4, 9223372036854775807)], [], noSum⟩
          letI : Env := E
          exact slice_calls noSums hmix (shaped_size hs) (G := 0) (by kernel_rfl) (enter_of Try.func11 (by kernel_rfl) (by kernel_rfl)) (n := 4) (by omega) (by omega) hc1 (cells := [(.sym .u8 0 [(0, 1)]), (.sym .u8 0 [(1, 1)]), (.sym .u8 0 [(2, 1)]), (.sym .u8 0 [(3, 1)])]) rfl
            (by
              intro i v hi
              have hlt : i < 4 := by simpa using (List.getElem?_eq_some_iff.1 hi).1
              rcases (by omega : i = 0 ∨ i = 1 ∨ i = 2 ∨ i = 3) with rfl | rfl | rfl | rfl <;> (simp at hi; subst hi; exact ⟨rfl, fun μ => .sym .u8 (by rw [hE]; simp)⟩))
            (fun μ hμ => .cons (.res .u8 h0) (.cons (.slx (fun h0 => hμ h0) (by rw [hE]; simp) (by omega)) (.cons (.bool false) .nil))) k4_L4up_f
        · obtain ⟨E, hE⟩ := envOf [(0, 255), (0, 255), (0, 255), (0, 255), (4, 9223372036854775807)] [] noSum [z1.getD 0 0, z1.getD 1 0, z1.getD 2 0, z1.getD 3 0, (len1 : Int)] (.cons (hz1 0 (by omega)) (.cons (hz1 1 (by omega)) (.cons (hz1 2 (by omega)) (.cons (hz1 3 (by omega)) (.cons (⟨by omega, by omega⟩) .nil))))) (by intro e he; simp at he)
          letI : Facts := ⟨[(0, 255), (0, 255), (0, 255), (0, 255), (4, 9223372036854775807)], [], noSum⟩
          letI : Env := E
          exact slice_calls noSums hmix (shaped_size hs) (G := 0) (by kernel_rfl) (enter_of Try.func11 (by kernel_rfl) (by kernel_rfl)) (n := 4) (by omega) (by omega) hc1 (cells := [(.sym .u8 0 [(0, 1)]), (.sym .u8 0 [(1, 1)]), (.sym .u8 0 [(2, 1)]), (.sym .u8 0 [(3, 1)])]) rfl
            (by
              intro i v hi
              have hlt : i < 4 := by simpa using (List.getElem?_eq_some_iff.1 hi).1
              rcases (by omega : i = 0 ∨ i = 1 ∨ i = 2 ∨ i = 3) with rfl | rfl | rfl | rfl <;> (simp at hi; subst hi; exact ⟨rfl, fun μ => .sym .u8 (by rw [hE]; simp)⟩))
            (fun μ hμ => .cons (.res .u8 h0) (.cons (.slx (fun h0 => hμ h0) (by rw [hE]; simp) (by omega)) (.cons (.bool true) .nil))) k4_L4up_t
  · rcases w1 with ⟨rfl, rfl, rfl, rfl⟩ | ⟨x1, rfl, hl1, hm1, hz01, hc1, hwz1⟩
    · cases a2
      · obtain ⟨E, hE⟩ := envOf [] [] noSum [] (.nil) (by intro e he; simp at he)
        exact key _ E _ noSums (fun μ => by letI : Facts := ⟨[], [], noSum⟩; letI : Env := E; exact .cons (.res .u8 h0) (.cons (.nils) (.cons (.bool false) .nil))) k5_Lnil_f
      · obtain ⟨E, hE⟩ := envOf [] [] noSum [] (.nil) (by intro e he; simp at he)
        exact key _ E _ noSums (fun μ => by letI : Facts := ⟨[], [], noSum⟩; letI : Env := E; exact .cons (.res .u8 h0) (.cons (.nils) (.cons (.bool true) .nil))) k5_Lnil_t
    · have hz1 : ∀ i, i < z1.length → 0 ≤ z1.getD i 0 ∧ z1.getD i 0 ≤ 255 := fun i hi => by
        have := hwz1 (z1.getD i 0) (by rw [List.getD_eq_getElem?_getD, List.getElem?_eq_getElem hi]; exact List.getElem_mem hi)
        simp [Lit.wf, IntKind.min, IntKind.max, IntKind.signed, IntKind.bits] at this
        simp; omega
      rcases (by omega : len1 ≤ 4 ∨ 5 ≤ len1) with hlen | hlen
      · cases a2
        · obtain ⟨E, hE⟩ := envOf [(0, 4)] [] noSum [(len1 : Int)] (.cons (⟨by omega, by omega⟩) .nil) (by intro e he; simp at he)
          exact key _ E _ noSums (fun μ => by letI : Facts := ⟨[(0, 4)], [], noSum⟩; letI : Env := E; exact .cons (.res .u8 h0) (.cons (.slx (fun h0 => absurd h0 (by omega)) (by rw [hE]; simp) (by omega)) (.cons (.bool false) .nil))) k5_Lm4_f
        · obtain ⟨E, hE⟩ := envOf [(0, 4)] [] noSum [(len1 : Int)] (.cons (⟨by omega, by omega⟩) .nil) (by intro e he; simp at he)
          exact key _ E _ noSums (fun μ => by letI : Facts := ⟨[(0, 4)], [], noSum⟩; letI : Env := E; exact .cons (.res .u8 h0) (.cons (.slx (fun h0 => absurd h0 (by omega)) (by rw [hE]; simp) (by omega)) (.cons (.bool true) .nil))) k5_Lm4_t
      · cases a2
        · obtain ⟨E, hE⟩ := envOf [(0, 255), (0, 255), (0, 255), (0, 255), (0, 255), (5, 9223372036854775807)] [] noSum [z1.getD 0 0, z1.getD 1 0, z1.getD 2 0, z1.getD 3 0, z1.getD 4 0, (len1 : Int)] (.cons (hz1 0 (by omega)) (.cons (hz1 1 (by omega)) (.cons (hz1 2 (by omega)) (.cons (hz1 3 (by omega)) (.cons (hz1 4 (by omega)) (.cons (⟨by omega, by omega⟩) .nil)))))) (by intro e he; simp at he)
          letI : Facts := ⟨[(0, 255), (0, 255), (0, 255), (0, 255), (0, 255), (5, 9223372036854775807)], [], noSum⟩
          letI : Env := E
          exact slice_calls noSums hmix (shaped_size hs) (G := 0) (by kernel_rfl) (enter_of Try.func11 (by kernel_rfl) (by kernel_rfl)) (n := 5) (by omega) (by omega) hc1 (cells := [(.sym .u8 0 [(0, 1)]), (.sym .u8 0 [(1, 1)]), (.sym .u8 0 [(2, 1)]), (.sym .u8 0 [(3, 1)]), (.sym .u8 0 [(4, 1)])]) rfl
            (by
              intro i v hi
              have hlt : i < 5 := by simpa using (List.getElem?_eq_some_iff.1 hi).1
              rcases (by omega : i = 0 ∨ i = 1 ∨ i = 2 ∨ i = 3 ∨ i = 4) with rfl | rfl | rfl | rfl | rfl <;> (simp at hi; subst hi; exact ⟨rfl, fun μ => .sym .u8 (by rw [hE]; simp)⟩))
            (fun μ hμ => .cons (.res .u8 h0) (.cons (.slx (fun h0 => hμ h0) (by rw [hE]; simp) (by omega)) (.cons (.bool false) .nil))) k5_L5up_f
        · obtain ⟨E, hE⟩ := envOf [(0, 255), (0, 255), (0, 255), (0, 255), (0, 255), (5, 9223372036854775807)] [] noSum [z1.getD 0 0, z1.getD 1 0, z1.getD 2 0, z1.getD 3 0, z1.getD 4 0, (len1 : Int)] (.cons (hz1 0 (by omega)) (.cons (hz1 1 (by omega)) (.cons (hz1 2 (by omega)) (.cons (hz1 3 (by omega)) (.cons (hz1 4 (by omega)) (.cons (⟨by omega, by omega⟩) .nil)))))) (by intro e he; simp at he)
          letI : Facts := ⟨[(0, 255), (0, 255), (0, 255), (0, 255), (0, 255), (5, 9223372036854775807)], [], noSum⟩
          letI : Env := E
          exact slice_calls noSums hmix (shaped_size hs) (G := 0) (by kernel_rfl) (enter_of Try.func11 (by kernel_rfl) (by kernel_rfl)) (n := 5) (by omega) (by omega) hc1 (cells := [(.sym .u8 0 [(0, 1)]), (.sym .u8 0 [(1, 1)]), (.sym .u8 0 [(2, 1)]), (.sym .u8 0 [(3, 1)]), (.sym .u8 0 [(4, 1)])]) rfl
            (by
              intro i v hi
              have hlt : i < 5 := by simpa using (List.getElem?_eq_some_iff.1 hi).1
              rcases (by omega : i = 0 ∨ i = 1 ∨ i = 2 ∨ i = 3 ∨ i = 4) with rfl | rfl | rfl | rfl | rfl <;> (simp at hi; subst hi; exact ⟨rfl, fun μ => .sym .u8 (by rw [hE]; simp)⟩))
            (fun μ hμ => .cons (.res .u8 h0) (.cons (.slx (fun h0 => hμ h0) (by rw [hE]; simp) (by omega)) (.cons (.bool true) .nil))) k5_L5up_t
  · rcases w1 with ⟨rfl, rfl, rfl, rfl⟩ | ⟨x1, rfl, hl1, hm1, hz01, hc1, hwz1⟩
    · cases a2
      · obtain ⟨E, hE⟩ := envOf [] [] noSum [] (.nil) (by intro e he; simp at he)
        exact key _ E _ noSums (fun μ => by letI : Facts := ⟨[], [], noSum⟩; letI : Env := E; exact .cons (.res .u8 h0) (.cons (.nils) (.cons (.bool false) .nil))) k6_Lnil_f
      · obtain ⟨E, hE⟩ := envOf [] [] noSum [] (.nil) (by intro e he; simp at he)
        exact key _ E _ noSums (fun μ => by letI : Facts := ⟨[], [], noSum⟩; letI : Env := E; exact .cons (.res .u8 h0) (.cons (.nils) (.cons (.bool true) .nil))) k6_Lnil_t
    · have hz1 : ∀ i, i < z1.length → 0 ≤ z1.getD i 0 ∧ z1.getD i 0 ≤ 255 := fun i hi => by
        have := hwz1 (z1.getD i 0) (by rw [List.getD_eq_getElem?_getD, List.getElem?_eq_getElem hi]; exact List.getElem_mem hi)
        simp [Lit.wf, IntKind.min, IntKind.max, IntKind.signed, IntKind.bits] at this
        simp; omega
      rcases (by omega : len1 ≤ 5 ∨ 6 ≤ len1) with hlen | hlen
      · cases a2
        · obtain ⟨E, hE⟩ := envOf [(0, 5)] [] noSum [(len1 : Int)] (.cons (⟨by omega, by omega⟩) .nil) (by intro e he; simp at he)
          exact key _ E _ noSums (fun μ => by letI : Facts := ⟨[(0, 5)], [], noSum⟩; letI : Env := E; exact .cons (.res .u8 h0) (.cons (.slx (fun h0 => absurd h0 (by omega)) (by rw [hE]; simp) (by omega)) (.cons (.bool false) .nil))) k6_Lm5_f
        · obtain ⟨E, hE⟩ := envOf [(0, 5)] [] noSum [(len1 : Int)] (.cons (⟨by omega, by omega⟩) .nil) (by intro e he; simp at he)
          exact key _ E _ noSums (fun μ => by letI : Facts := ⟨[(0, 5)], [], noSum⟩; letI : Env := E; exact .cons (.res .u8 h0) (.cons (.slx (fun h0 => absurd h0 (by omega)) (by rw [hE]; simp) (by omega)) (.cons (.bool true) .nil))) k6_Lm5_t
      · cases a2
        · obtain ⟨E, hE⟩ := envOf [(0, 255), (0, 255), (0, 255), (0, 255), (0, 255), (0, 255), (6, 9223372036854775807)] [] noSum [z1.getD 0 0, z1.getD 1 0, z1.getD 2 0, z1.getD 3 0, z1.getD 4 0, z1.getD 5 0, (len1 : Int)] (.cons (hz1 0 (by omega)) (.cons (hz1 1 (by omega)) (.cons (hz1 2 (by omega)) (.cons (hz1 3 (by omega)) (.cons (hz1 4 (by omega)) (.cons (hz1 5 (by omega)) (.cons (⟨by omega, by omega⟩) .nil))))))) (by intro e he; simp at he)
          letI : Facts := ⟨[(0, 255), (0, 255), (0, 255), (0, 255), (0, 255), (0, 255), (6, 9223372036854775807)], [], noSum⟩
          letI : Env := E
          exact slice_calls noSums hmix (shaped_size hs) (G := 0) (by kernel_rfl) (enter_of Try.func11 (by kernel_rfl) (by kernel_rfl)) (n := 6) (by omega) (by omega) hc1 (cells := [(.sym .u8 0 [(0, 1)]), (.sym .u8 0 [(1, 1)]), (.sym .u8 0 [(2, 1)]), (.sym .u8 0 [(3, 1)]), (.sym .u8 0 [(4, 1)]), (.sym .u8 0 [(5, 1)])]) rfl
            (by
              intro i v hi
              have hlt : i < 6 := by simpa using (List.getElem?_eq_some_iff.1 hi).1
              rcases (by omega : i = 0 ∨ i = 1 ∨ i = 2 ∨ i = 3 ∨ i = 4 ∨ i = 5) with rfl | rfl | rfl | rfl | rfl | rfl <;> (simp at hi; subst hi; exact ⟨rfl, fun μ => .sym .u8 (by rw [hE]; simp)⟩))
            (fun μ hμ => .cons (.res .u8 h0) (.cons (.slx (fun h0 => hμ h0) (by rw [hE]; simp) (by omega)) (.cons (.bool false) .nil))) k6_L6up_f
        · obtain ⟨E, hE⟩ := envOf [(0, 255), (0, 255), (0, 255), (0, 255), (0, 255), (0, 255), (6, 9223372036854775807)] [] noSum [z1.getD 0 0, z1.getD 1 0, z1.getD 2 0, z1.getD 3 0, z1.getD 4 0, z1.getD 5 0, (len1 : Int)] (.cons (hz1 0 (by omega)) (.cons (hz1 1 (by omega)) (.cons (hz1 2 (by omega)) (.cons (hz1 3 (by omega)) (.cons (hz1 4 (by omega)) (.cons (hz1 5 (by omega)) (.cons (⟨by omega, by omega⟩) .nil))))))) (by intro e he; simp at he)
          letI : Facts := ⟨[(0, 255), (0, 255), (0, 255), (0, 255), (0, 255), (0, 255), (6, 9223372036854775807)], [], noSum⟩
          letI : Env := E
          exact slice_calls noSums hmix (shaped_size hs) (G := 0) (by kernel_rfl) (enter_of Try.func11 (by kernel_rfl) (by kernel_rfl)) (n := 6) (by omega) (by omega) hc1 (cells := [(.sym .u8 0 [(0, 1)]), (.sym .u8 0 [(1, 1)]), (.sym .u8 0 [(2, 1)]), (.sym .u8 0 [(3, 1)]), (.sym .u8 0 [(4, 1)]), (.sym .u8 0 [(5, 1)])]) rfl
            (by
              intro i v hi
              have hlt : i < 6 := by simpa using (List.getElem?_eq_some_iff.1 hi).1
              rcases (by omega : i = 0 ∨ i = 1 ∨ i = 2 ∨ i = 3 ∨ i = 4 ∨ i = 5) with rfl | rfl | rfl | rfl | rfl | rfl <;> (simp at hi; subst hi; exact ⟨rfl, fun μ => .sym .u8 (by rw [hE]; simp)⟩))
            (fun μ hμ => .cons (.res .u8 h0) (.cons (.slx (fun h0 => hμ h0) (by rw [hE]; simp) (by omega)) (.cons (.bool true) .nil))) k6_L6up_t
  · rcases w1 with ⟨rfl, rfl, rfl, rfl⟩ | ⟨x1, rfl, hl1, hm1, hz01, hc1, hwz1⟩
    · cases a2
      · obtain ⟨E, hE⟩ := envOf [] [] noSum [] (.nil) (by intro e he; simp at he)
        exact key _ E _ noSums (fun μ => by letI : Facts := ⟨[], [], noSum⟩; letI : Env := E; exact .cons (.res .u8 h0) (.cons (.nils) (.cons (.bool false) .nil))) k7_Lnil_f
      · obtain ⟨E, hE⟩ := envOf [] [] noSum [] (.nil) (by intro e he; simp at he)
        exact key _ E _ noSums (fun μ => by letI : Facts := ⟨[], [], noSum⟩; letI : Env := E; exact .cons (.res .u8 h0) (.cons (.nils) (.cons (.bool true) .nil))) k7_Lnil_t
    · have hz1 : ∀ i, i < z1.length → 0 ≤ z1.getD i 0 ∧ z1.getD i 0 ≤ 255 := fun i hi => by
        have := hwz1 (z1.getD i 0) (by rw [List.getD_eq_getElem?_getD, List.getElem?_eq_getElem hi]; exact List.getElem_mem hi)
        simp [Lit.wf, IntKind.min, IntKind.max, IntKind.signed, IntKind.bits] at this
        simp; omega
      rcases (by omega : len1 ≤ 6 ∨ 7 ≤ len1) with hlen | hlen
      · cases a2
        · obtain ⟨E, hE⟩ := envOf [(0, 6)] [] noSum [(len1 : Int)] (.cons (⟨by omega, by omega⟩) .nil) (by intro e he; simp at he)
          exact key _ E _ noSums (fun μ => by letI : Facts := ⟨[(0, 6)], [], noSum⟩; letI : Env := E; exact .cons (.res .u8 h0) (.cons (.slx (fun h0 => absurd h0 (by omega)) (by rw [hE]; simp) (by omega)) (.cons (.bool false) .nil))) k7_Lm6_f
        · obtain ⟨E, hE⟩ := envOf [(0, 6)] [] noSum [(len1 : Int)] (.cons (⟨by omega, by omega⟩) .nil) (by intro e he; simp at he)
          exact key _ E _ noSums (fun μ => by letI : Facts := ⟨[(0, 6)], [], noSum⟩; letI : Env := E; exact .cons (.res .u8 h0) (.cons (.slx (fun h0 => absurd h0 (by omega)) (by rw [hE]; simp) (by omega)) (.cons (.bool true) .nil))) k7_Lm6_t
      · cases a2
        · obtain ⟨E, hE⟩ := envOf [(0, 255), (0, 255), (0, 255), (0, 255), (0, 255), (0, 255), (0, 255), (7, 9223372036854775807)] [] noSum [z1.getD 0 0, z1.getD 1 0, z1.getD 2 0, z1.getD 3 0, z1.getD 4 0, z1.getD 5 0, z1.getD 6 0, (len1 : Int)] (.cons (hz1 0 (by omega)) (.cons (hz1 1 (by omega)) (.cons (hz1 2 (by omega)) (.cons (hz1 3 (by omega)) (.cons (hz1 4 (by omega)) (.cons (hz1 5 (by omega)) (.cons (hz1 6 (by omega)) (.cons (⟨by omega, by omega⟩) .nil)))))))) (by intro e he; simp at he)
          letI : Facts := ⟨[(0, 255), (0, 255), (0, 255), (0, 255), (0, 255), (0, 255), (0, 255), (7, 9223372036854775807)], [], noSum⟩
          letI : Env := E
          exact slice_calls noSums hmix (shaped_size hs) (G := 0) (by kernel_rfl) (enter_of Try.func11 (by kernel_rfl) (by kernel_rfl)) (n := 7) (by omega) (by omega) hc1 (cells := [(.sym .u8 0 [(0, 1)]), (.sym .u8 0 [(1, 1)]), (.sym .u8 0 [(2, 1)]), (.sym .u8 0 [(3, 1)]), (.sym .u8 0 [(4, 1)]), (.sym .u8 0 [(5, 1)]), (.sym .u8 0 [(6, 1)])]) rfl
            (by
              intro i v hi
              have hlt : i < 7 := by simpa using (List.getElem?_eq_some_iff.1 hi).1
              rcases (by omega : i = 0 ∨ i = 1 ∨ i = 2 ∨ i = 3 ∨ i = 4 ∨ i = 5 ∨ i = 6) with rfl | rfl | rfl | rfl | rfl | rfl | rfl <;> (simp at hi; subst hi; exact ⟨rfl, fun μ => .sym .u8 (by rw [hE]; simp)⟩))
            (fun μ hμ => .cons (.res .u8 h0) (.cons (.slx (fun h0 => hμ h0) (by rw [hE]; simp) (by omega)) (.cons (.bool false) .nil))) k7_L7up_f
        · obtain ⟨E, hE⟩ := envOf [(0, 255), (0, 255), (0, 255), (0, 255), (0, 255), (0, 255), (0, 255), (7, 9223372036854775807)] [] noSum [z1.getD 0 0, z1.getD 1 0, z1.getD 2 0, z1.getD 3 0, z1.getD 4 0, z1.getD 5 0, z1.getD 6 0, (len1 : Int)] (.cons (hz1 0 (by omega)) (.cons (hz1 1 (by omega)) (.cons (hz1 2 (by omega)) (.cons (hz1 3 (by omega)) (.cons (hz1 4 (by omega)) (.cons (hz1 5 (by omega)) (.cons (hz1 6 (by omega)) (.cons (⟨by omega, by omega⟩) .nil)))))))) (by intro e he; simp at he)
          letI : Facts := ⟨[(0, 255), (0, 255), (0, 255), (0, 255), (0, 255), (0, 255), (0, 255), (7, 9223372036854775807)], [], noSum⟩
          letI : Env := E
          exact slice_calls noSums hmix (shaped_size hs) (G := 0) (by kernel_rfl) (enter_of Try.func11 (by kernel_rfl) (by kernel_rfl)) (n := 7) (by omega) (by omega) hc1 (cells := [(.sym .u8 0 [(0, 1)]), (.sym .u8 0 [(1, 1)]), (.sym .u8 0 [(2, 1)]), (.sym .u8 0 [(3, 1)]), (.sym .u8 0 [(4, 1)]), (.sym .u8 0 [(5, 1)]), (.sym .u8 0 [(6, 1)])]) rfl
            (by
              intro i v hi
              have hlt : i < 7 := by simpa using (List.getElem?_eq_some_iff.1 hi).1
              rcases (by omega : i = 0 ∨ i = 1 ∨ i = 2 ∨ i = 3 ∨ i = 4 ∨ i = 5 ∨ i = 6) with rfl | rfl | rfl | rfl | rfl | rfl | rfl <;> (simp at hi; subst hi; exact ⟨rfl, fun μ => .sym .u8 (by rw [hE]; simp)⟩))
            (fun μ hμ => .cons (.res .u8 h0) (.cons (.slx (fun h0 => hμ h0) (by rw [hE]; simp) (by omega)) (.cons (.bool true) .nil))) k7_L7up_t

/-! ### THE ROW's STEP: WRITTEN OUT: LEAVE IT -/
set_option maxRecDepth 100000 in
theorem lifted (os : Os) (started : os.Started) (H : Type) (enc : TypeId × Value → H) :
    ReturnsInHanded {} Try.checked os 11 .any (Rows.serviceStopsSpec.pre6 enc Try.prog Try.f11 Rows.serviceStopsRow.domain false) (Rows.serviceStopsSpec.post enc Try.prog Try.f11 false true false false) := by
  refine of_shaped (C := Try.checked) own started (by kernel_rfl) Try.func11
    (ChangeSpec.witness6 (enc := enc) (C := Try.checked) false ⟨#[], #[.int .u8 0, .slice none 0 0, .bool false], []⟩ 8 (by kernel_rfl) (by kernel_rfl) (by kernel_rfl) (by kernel_rfl)) ?_
  intro W base args ds gs before hshape hval0 hW
  have hval : ∀ (j : Nat) t v, Try.f11.params[j]? = some t → args[j]? = some v → Value.okWide Try.prog W .any base t v := hval0
  have hW' := hW
  obtain ⟨p, q, hA0, hV, rfl, hfz, hnd⟩ := hW
  have hA : DataW.TrodAll enc Try.prog W 0 (fun _ => true) true Try.f11.params.toList args.toList ds p := hA0
  rw [Try.params11] at hA hval
  obtain ⟨v0, vs0, d0, ds0, p0, q0, hargs, rfl, rfl, h0, r0⟩ := trodAll_cons hA
  obtain ⟨v1, vs1, d1, ds1, p1, q1, rfl, rfl, rfl, h1, r1⟩ := trodAll_cons r0
  obtain ⟨v2, vs2, d2, ds2, p2, q2, rfl, rfl, rfl, h2, r2⟩ := trodAll_cons r1
  obtain ⟨rfl, rfl, rfl⟩ := trodAll_nil r2
  obtain rfl : args = #[v0, v1, v2] := by cases args; simp_all
  obtain ⟨rfl, rfl⟩ := trodVars_none hV
  obtain ⟨a0, rfl, rfl, rfl, w0⟩ := open_int Try.underlying5 (hval 0 5 v0 rfl rfl) h0
  obtain ⟨a1, len1, cap1, rfl⟩ := okWide_slice Try.underlying54 (hval 1 54 v1 rfl rfl)
  have k1 := h1
  have lt1 : ∀ x ∈ p1, x.block < W.heap.size := by obtain ⟨m, hm⟩ := k1; exact DataW.trod_lt m _ _ _ hm
  obtain ⟨z1, w1⟩ : ∃ zs, IsRow .u8 W a1 len1 cap1 zs := by
    obtain ⟨fuel, hf⟩ := h1
    rcases open_ints Try.underlying54 Try.underlying5 (by kernel_rfl) hf with ⟨hcs, _⟩ | ⟨x, l, c, zs, hcs, _, hl, hm, hz, _, hcell, hwz⟩
    · simp [Value.cells] at hcs
      obtain ⟨rfl, rfl, rfl⟩ := hcs
      exact ⟨[], .inl ⟨rfl, rfl, rfl, rfl⟩⟩
    · simp [Value.cells] at hcs
      obtain ⟨rfl, rfl, rfl⟩ := hcs
      exact ⟨zs, .inr ⟨_, rfl, hl, hm, by simpa using hz, hcell, hwz⟩⟩
  obtain ⟨a2, rfl, rfl, rfl⟩ := open_bool Try.underlying4 (hval 2 4 v2 rfl rfl) h2
  clear hA0 hval0
  refine (walk a0 a1 len1 cap1 z1 a2 W w0 w1 hshape).mono fun e W' ⟨he, bel⟩ => ?_
  subst he
  exact ⟨_, rfl, _, _, _, [], _, [], hW', trodAll_mk1 (shut_bool Try.underlying4 _), (trodAll_cons_mk (shut_int Try.underlying5 w0) (trodAll_cons_mk (Below.trod laidOut (by kernel_rfl) (of_decide_eq_true (by kernel_rfl)) k1 bel lt1) (trodAll_cons_mk (shut_bool Try.underlying4 _) trodAll_mk0))), rfl, bel.frame _, fun h => by cases h⟩

theorem over : Rows.serviceStopsRow.holds Try.pinned (OpenSpec.ofChange Rows.serviceStopsSpec) :=
  OpenClaim.holds_of_wide 11 Try.f11 rfl rfl rfl rfl rfl rfl rfl ⟨rfl, rfl, rfl, rfl, rfl⟩ rfl rfl rfl rfl rfl (by kernel_rfl) Try.func11 (by kernel_rfl)
    (of_decide_eq_true (by kernel_rfl)) (by unfold Func.isWrapper; first | (rw [if_pos (by decide +kernel)]; kernel_rfl) | (rw [if_neg (by decide +kernel)]; exact ⟨rfl, rfl⟩))
    (fun os started H enc _ => lifted os started H enc)

theorem proved : Rows.ServiceStopsSaid := over
#print axioms proved
end Go.Proofs.Ytnoddedgkgkfhaa.serviceStops
