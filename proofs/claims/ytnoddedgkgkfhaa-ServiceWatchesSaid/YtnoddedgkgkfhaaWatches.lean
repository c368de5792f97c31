/- The statement 'ServiceWatches' holds of the given program: whatever the input, the law's function returns true. No condition. -/
import Derived.Test.YtnoddedgkgkfhaaRows
import Derived.WalkKit
import Derived.ProofKit
import Derived.OpenShut
import Derived.ShutString
import Derived.Test.YtnoddedgkgkfhaaEv5
import Derived.Test.YtnoddedgkgkfhaaWatchesAdd
import Derived.Test.YtnoddedgkgkfhaaWatchesK0
import Derived.Test.YtnoddedgkgkfhaaWatchesK1
import Derived.Test.YtnoddedgkgkfhaaWatchesK2
import Derived.Test.YtnoddedgkgkfhaaWatchesK3
import Derived.Test.YtnoddedgkgkfhaaWatchesK4
import Derived.Test.YtnoddedgkgkfhaaWatchesK5
import Derived.Test.YtnoddedgkgkfhaaWatchesK6
import Derived.Test.YtnoddedgkgkfhaaWatchesK7
namespace Go.Proofs.Ytnoddedgkgkfhaa.serviceWatches
open Go.Ev
open Go.ChangeShapes Go.WideShapes Go.ChangeAt Go.RowKit
open Go.ChangeMaps (open_string shut_string)
set_option linter.unusedVariables false

theorem own : ownKnob Try.prog.godebug = none := by kernel_rfl
theorem laidOut : laidOutB Try.prog = true := by kernel_rfl

/-- WHAT THE WALK IS TOLD OF A SLICE OF INTEGERS THAT CAME IN: it is nil; or it leads to a row of 'cap' cells, the numbers 'zs' (the first 'len' are its elements, the rest its spare room), each fitting its kind. -/
def IsRow (k : IntKind) (w : World) (a : Option Addr) (len cap : Nat) (zs : List Int) : Prop :=
  (a = none ∧ len = 0 ∧ cap = 0 ∧ zs = []) ∨
  ∃ x, a = some x ∧ len ≤ cap ∧ cap ≤ maxLen ∧ zs.length = cap ∧ (∀ i, i < zs.length → w.cell? (x.add i) = some (.int k (zs.getD i 0))) ∧ ∀ n ∈ zs, (Lit.int k n).wf = true

theorem addOK {bnd : List (Int × Int)} {E : @Env ⟨bnd, [], addOf 70 bnd []⟩} : @SumsOK ⟨bnd, [], addOf 70 bnd []⟩ E Try.prog := by
  have hmix : Try.prog.follows .mixedOrders = true := Try.checked.mixed
  have hen : ∀ (args : Array Value) w, (callFunc 70 args).run Try.prog w = .ok (.enter 70 args) w := by
    obtain ⟨E0, _⟩ := envOf [] [] noSum [] .nil (by intro e he; simp at he)
    letI : Facts := ⟨[], [], noSum⟩
    letI : Env := E0
    exact fun args => enter_of Try.func70 (by kernel_rfl) (by kernel_rfl)
  refine add_sums hen ?_
  intro a b w h1 h2 h3 h4 hsz
  rcases (by omega : a = 0 ∨ 1 ≤ a) with rfl | ha <;> rcases (by omega : b = 0 ∨ 1 ≤ b) with rfl | hb
  · obtain ⟨E, hE⟩ := envOf [] [] noSum [] .nil (by intro e he; simp at he)
    letI : Facts := ⟨[], [], noSum⟩
    letI : Env := E
    refine (run_sum noSums hmix hsz (hen _) (fun μ => .cons (.int .i64 0) (.cons (.int .i64 0) .nil)) add00).mono fun e w' ⟨he, hb⟩ => ⟨by rw [he]; simp, hb⟩
  · obtain ⟨E, hE⟩ := envOf [(1, 1099511627776)] [] noSum [b] (.cons ⟨by omega, by omega⟩ .nil) (by intro e he; simp at he)
    letI : Facts := ⟨[(1, 1099511627776)], [], noSum⟩
    letI : Env := E
    refine (run_sum noSums hmix hsz (hen _) (fun μ => .cons (.int .i64 0) (.cons (.sym .i64 (by rw [hE]; simp)) .nil)) add01).mono fun e w' ⟨he, hb⟩ => ⟨by rw [he, hE]; simp, hb⟩
  · obtain ⟨E, hE⟩ := envOf [(1, 1099511627776)] [] noSum [a] (.cons ⟨by omega, by omega⟩ .nil) (by intro e he; simp at he)
    letI : Facts := ⟨[(1, 1099511627776)], [], noSum⟩
    letI : Env := E
    refine (run_sum noSums hmix hsz (hen _) (fun μ => .cons (.sym .i64 (by rw [hE]; simp)) (.cons (.int .i64 0) .nil)) add10).mono fun e w' ⟨he, hb⟩ => ⟨by rw [he, hE]; simp, hb⟩
  · obtain ⟨E, hE⟩ := envOf [(1, 1099511627776), (1, 1099511627776)] [] noSum [a, b] (.cons ⟨by omega, by omega⟩ (.cons ⟨by omega, by omega⟩ .nil)) (by intro e he; simp at he)
    letI : Facts := ⟨[(1, 1099511627776), (1, 1099511627776)], [], noSum⟩
    letI : Env := E
    refine (run_sum noSums hmix hsz (hen _) (fun μ => .cons (.sym .i64 (by rw [hE]; simp)) (.cons (.sym .i64 (by rw [hE]; simp)) .nil)) add11).mono fun e w' ⟨he, hb⟩ => ⟨by rw [he, hE]; simp, hb⟩

set_option maxHeartbeats 20000000 in
theorem walk (a0 : Int) (a1 : Option Addr) (len1 cap1 : Nat) (z1 : List Int) (a2 : Bool) (w : World) (w0 : (Lit.int .u8 a0).wf = true) (w1 : IsRow .u8 w a1 len1 cap1 z1) (hs : w.ShapedOpen Try.prog) :
    Calls Try.prog 9 #[.int .u8 a0, .slice a1 len1 cap1, .bool a2] w fun e w' => e = .returned (.bool true) ∧ Below w.heap.size w w' := by
  have hmix : Try.prog.follows .mixedOrders = true := Try.checked.mixed
  have hb0 : 0 ≤ a0 ∧ a0 ≤ 255 := by
    have := w0
    simp [Lit.wf, IntKind.min, IntKind.max, IntKind.signed, IntKind.bits] at this
    omega
  have hm0 : maxLen = 9223372036854775807 := by decide
  have key : ∀ (F : Facts) (E : @Env F) (l : List AV), @SumsOK F E Try.prog → (∀ μ, @VRs F E μ l [.int .u8 a0, .slice a1 len1 cap1, .bool a2]) → isTrue (@Ev.run F Try.prog 100000 9 l) = true →
      Calls Try.prog 9 #[.int .u8 a0, .slice a1 len1 cap1, .bool a2] w fun e w' => e = .returned (.bool true) ∧ Below w.heap.size w w' := fun F E l hS hv h =>
    run_calls (F := F) (E := E) hS hmix (shaped_size hs) (enter_of Try.func9 (by kernel_rfl) (by kernel_rfl)) hv h
  have ho0 : (0 ≤ a0 ∧ a0 ≤ 255) := by omega
  have h0 := ho0
  rcases w1 with ⟨rfl, rfl, rfl, rfl⟩ | ⟨x1, rfl, hl1, hm1, hz01, hc1, hwz1⟩
  · cases a2
    · obtain ⟨E, hE⟩ := envOf [(0, 255)] [] (addOf 70 [(0, 255)] []) [a0] (.cons (⟨by omega, by omega⟩) .nil) (by intro e he; simp at he)
      exact key _ E _ addOK (fun μ => by letI : Facts := ⟨[(0, 255)], [], (addOf 70 [(0, 255)] [])⟩; letI : Env := E; exact .cons (.sym .u8 (by rw [hE]; simp)) (.cons (.nils) (.cons (.bool false) .nil))) k0_Lnil_f
    · obtain ⟨E, hE⟩ := envOf [(0, 255)] [] (addOf 70 [(0, 255)] []) [a0] (.cons (⟨by omega, by omega⟩) .nil) (by intro e he; simp at he)
      exact key _ E _ addOK (fun μ => by letI : Facts := ⟨[(0, 255)], [], (addOf 70 [(0, 255)] [])⟩; letI : Env := E; exact .cons (.sym .u8 (by rw [hE]; simp)) (.cons (.nils) (.cons (.bool true) .nil))) k0_Lnil_t
  · have hz1 : ∀ i, i < z1.length → 0 ≤ z1.getD i 0 ∧ z1.getD i 0 ≤ 255 := fun i hi => by
      have := hwz1 (z1.getD i 0) (by rw [List.getD_eq_getElem?_getD, List.getElem?_eq_getElem hi]; exact List.getElem_mem hi)
      simp [Lit.wf, IntKind.min, IntKind.max, IntKind.signed, IntKind.bits] at this
      simp; omega
    rcases (by omega : len1 = 0 ∨ len1 = 1 ∨ len1 = 2 ∨ len1 = 3 ∨ len1 = 4 ∨ len1 = 5 ∨ len1 = 6 ∨ len1 = 7 ∨ len1 = 8 ∨ len1 = 9 ∨ len1 = 10 ∨ len1 = 11 ∨ len1 = 12 ∨ len1 = 13 ∨ len1 = 14 ∨ len1 = 15 ∨ len1 = 16 ∨ len1 = 17 ∨ len1 = 18 ∨ len1 = 19 ∨ len1 = 20 ∨ 21 ≤ len1) with rfl | rfl | rfl | rfl | rfl | rfl | rfl | rfl | rfl | rfl | rfl | rfl | rfl | rfl | rfl | rfl | rfl | rfl | rfl | rfl | rfl | hlen
    · cases a2
      · obtain ⟨E, hE⟩ := envOf [(0, 255)] [] (addOf 70 [(0, 255)] []) [a0] (.cons (⟨by omega, by omega⟩) .nil) (by intro e he; simp at he)
        exact key _ E _ addOK (fun μ => by letI : Facts := ⟨[(0, 255)], [], (addOf 70 [(0, 255)] [])⟩; letI : Env := E; exact .cons (.sym .u8 (by rw [hE]; simp)) (.cons (.slx (fun h0 => absurd h0 (by omega)) (by simp) (by omega)) (.cons (.bool false) .nil))) k0_L0_f
      · obtain ⟨E, hE⟩ := envOf [(0, 255)] [] (addOf 70 [(0, 255)] []) [a0] (.cons (⟨by omega, by omega⟩) .nil) (by intro e he; simp at he)
        exact key _ E _ addOK (fun μ => by letI : Facts := ⟨[(0, 255)], [], (addOf 70 [(0, 255)] [])⟩; letI : Env := E; exact .cons (.sym .u8 (by rw [hE]; simp)) (.cons (.slx (fun h0 => absurd h0 (by omega)) (by simp) (by omega)) (.cons (.bool true) .nil))) k0_L0_t
    · cases a2
      · obtain ⟨E, hE⟩ := envOf [(0, 255), (0, 255)] [] (addOf 70 [(0, 255), (0, 255)] []) [a0, z1.getD 0 0] (.cons (⟨by omega, by omega⟩) (.cons (hz1 0 (by omega)) .nil)) (by intro e he; simp at he)
        letI : Facts := ⟨[(0, 255), (0, 255)], [], (addOf 70 [(0, 255), (0, 255)] [])⟩
        letI : Env := E
        exact slice_calls addOK hmix (shaped_size hs) (G := 0) (by kernel_rfl) (enter_of Try.func9 (by kernel_rfl) (by kernel_rfl)) (n := 1) (by omega) (by omega) hc1 (cells := [(.sym .u8 0 [(1, 1)])]) rfl
          (by
            intro i v hi
            have hlt : i < 1 := by simpa using (List.getElem?_eq_some_iff.1 hi).1
            rcases (by omega : i = 0) with rfl <;> (simp at hi; subst hi; exact ⟨rfl, fun μ => .sym .u8 (by rw [hE]; simp)⟩))
          (fun μ hμ => .cons (.sym .u8 (by rw [hE]; simp)) (.cons (.slx (fun h0 => hμ h0) (by simp) (by omega)) (.cons (.bool false) .nil))) k0_L1_f
      · obtain ⟨E, hE⟩ := envOf [(0, 255), (0, 255)] [] (addOf 70 [(0, 255), (0, 255)] []) [a0, z1.getD 0 0] (.cons (⟨by omega, by omega⟩) (.cons (hz1 0 (by omega)) .nil)) (by intro e he; simp at he)
        letI : Facts := ⟨[(0, 255), (0, 255)], [], (addOf 70 [(0, 255), (0, 255)] [])⟩
        letI : Env := E
        exact slice_calls addOK hmix (shaped_size hs) (G := 0) (by kernel_rfl) (enter_of Try.func9 (by kernel_rfl) (by kernel_rfl)) (n := 1) (by omega) (by omega) hc1 (cells := [(.sym .u8 0 [(1, 1)])]) rfl
          (by
            intro i v hi
            have hlt : i < 1 := by simpa using (List.getElem?_eq_some_iff.1 hi).1
            rcases (by omega : i = 0) with rfl <;> (simp at hi; subst hi; exact ⟨rfl, fun μ => .sym .u8 (by rw [hE]; simp)⟩))
          (fun μ hμ => .cons (.sym .u8 (by rw [hE]; simp)) (.cons (.slx (fun h0 => hμ h0) (by simp) (by omega)) (.cons (.bool true) .nil))) k0_L1_t
    · cases a2
      · obtain ⟨E, hE⟩ := envOf [(0, 255), (0, 255), (0, 255)] [] (addOf 70 [(0, 255), (0, 255), (0, 255)] []) [a0, z1.getD 0 0, z1.getD 1 0] (.cons (⟨by omega, by omega⟩) (.cons (hz1 0 (by omega)) (.cons (hz1 1 (by omega)) .nil))) (by intro e he; simp at he)
        letI : Facts := ⟨[(0, 255), (0, 255), (0, 255)], [], (addOf 70 [(0, 255), (0, 255), (0, 255)] [])⟩
        letI : Env := E
        exact slice_calls addOK hmix (shaped_size hs) (G := 0) (by kernel_rfl) (enter_of Try.func9 (by kernel_rfl) (by kernel_rfl)) (n := 2) (by omega) (by omega) hc1 (cells := [(.sym .u8 0 [(1, 1)]), (.sym .u8 0 [(2, 1)])]) rfl
          (by
            intro i v hi
            have hlt : i < 2 := by simpa using (List.getElem?_eq_some_iff.1 hi).1
            rcases (by omega : i = 0 ∨ i = 1) with rfl | rfl <;> (simp at hi; subst hi; exact ⟨rfl, fun μ => .sym .u8 (by rw [hE]; simp)⟩))
          (fun μ hμ => .cons (.sym .u8 (by rw [hE]; simp)) (.cons (.slx (fun h0 => hμ h0) (by simp) (by omega)) (.cons (.bool false) .nil))) k0_L2_f
      · obtain ⟨E, hE⟩ := envOf [(0, 255), (0, 255), (0, 255)] [] (addOf 70 [(0, 255), (0, 255), (0, 255)] []) [a0, z1.getD 0 0, z1.getD 1 0] (.cons (⟨by omega, by omega⟩) (.cons (hz1 0 (by omega)) (.cons (hz1 1 (by omega)) .nil))) (by intro e he; simp at he)
        letI : Facts := ⟨[(0, 255), (0, 255), (0, 255)], [], (addOf 70 [(0, 255), (0, 255), (0, 255)] [])⟩
        letI : Env := E
        exact slice_calls addOK hmix (shaped_size hs) (G := 0) (by kernel_rfl) (enter_of Try.func9 (by kernel_rfl) (by kernel_rfl)) (n := 2) (by omega) (by omega) hc1 (cells := [(.sym .u8 0 [(1, 1)]), (.sym .u8 0 [(2, 1)])]) rfl
          (by
            intro i v hi
            have hlt : i < 2 := by simpa using (List.getElem?_eq_some_iff.1 hi).1
            rcases (by omega : i = 0 ∨ i = 1) with rfl | rfl <;> (simp at hi; subst hi; exact ⟨rfl, fun μ => .sym .u8 (by rw [hE]; simp)⟩))
          (fun μ hμ => .cons (.sym .u8 (by rw [hE]; simp)) (.cons (.slx (fun h0 => hμ h0) (by simp) (by omega)) (.cons (.bool true) .nil))) k0_L2_t
    · cases a2
      · obtain ⟨E, hE⟩ := envOf [(0, 255), (0, 255), (0, 255), (0, 255)] [] (addOf 70 [(0, 255), (0, 255), (0, 255), (0, 255)] []) [a0, z1.getD 0 0, z1.getD 1 0, z1.getD 2 0] (.cons (⟨by omega, by omega⟩) (.cons (hz1 0 (by omega)) (.cons (hz1 1 (by omega)) (.cons (hz1 2 (by omega)) .nil)))) (by intro e he; simp at he)
        letI : Facts := ⟨[(0, 255), (0, 255), (0, 255), (0, 255)], [], (addOf 70 [(0, 255), (0, 255), (0, 255), (0, 255)] [])⟩
        letI : Env := E
        exact slice_calls addOK hmix (shaped_size hs) (G := 0) (by kernel_rfl) (enter_of Try.func9 (by kernel_rfl) (by kernel_rfl)) (n := 3) (by omega) (by omega) hc1 (cells := [(.sym .u8 0 [(1, 1)]), (.sym .u8 0 [(2, 1)]), (.sym .u8 0 [(3, 1)])]) rfl
          (by
            intro i v hi
            have hlt : i < 3 := by simpa using (List.getElem?_eq_some_iff.1 hi).1
            rcases (by omega : i = 0 ∨ i = 1 ∨ i = 2) with rfl | rfl | rfl <;> (simp at hi; subst hi; exact ⟨rfl, fun μ => .sym .u8 (by rw [hE]; simp)⟩))
          (fun μ hμ => .cons (.sym .u8 (by rw [hE]; simp)) (.cons (.slx (fun h0 => hμ h0) (by simp) (by omega)) (.cons (.bool false) .nil))) k0_L3_f
      · obtain ⟨E, hE⟩ := envOf [(0, 255), (0, 255), (0, 255), (0, 255)] [] (addOf 70 [(0, 255), (0, 255), (0, 255), (0, 255)] []) [a0, z1.getD 0 0, z1.getD 1 0, z1.getD 2 0] (.cons (⟨by omega, by omega⟩) (.cons (hz1 0 (by omega)) (.cons (hz1 1 (by omega)) (.cons (hz1 2 (by omega)) .nil)))) (by intro e he; simp at he)
        letI : Facts := ⟨[(0, 255), (0, 255), (0, 255), (0, 255)], [], (addOf 70 [(0, 255), (0, 255), (0, 255), (0, 255)] [])⟩
        letI : Env := E
        exact slice_calls addOK hmix (shaped_size hs) (G := 0) (by kernel_rfl) (enter_of Try.func9 (by kernel_rfl) (by kernel_rfl)) (n := 3) (by omega) (by omega) hc1 (cells := [(.sym .u8 0 [(1, 1)]), (.sym .u8 0 [(2, 1)]), (.sym .u8 0 [(3, 1)])]) rfl
          (by
            intro i v hi
            have hlt : i < 3 := by simpa using (List.getElem?_eq_some_iff.1 hi).1
            rcases (by omega : i = 0 ∨ i = 1 ∨ i = 2) with rfl | rfl | rfl <;> (simp at hi; subst hi; exact ⟨rfl, fun μ => .sym .u8 (by rw [hE]; simp)⟩))
          (fun μ hμ => .cons (.sym .u8 (by rw [hE]; simp)) (.cons (.slx (fun h0 => hμ h0) (by simp) (by omega)) (.cons (.bool true) .nil))) k0_L3_t
    · cases a2
      · obtain ⟨E, hE⟩ := envOf [(0, 255), (0, 255), (0, 255), (0, 255), (0, 255)] [] (addOf 70 [(0, 255), (0, 255), (0, 255), (0, 255), (0, 255)] []) [a0, z1.getD 0 0, z1.getD 1 0, z1.getD 2 0, z1.getD 3 0] (.cons (⟨by omega, by omega⟩) (.cons (hz1 0 (by omega)) (.cons (hz1 1 (by omega)) (.cons (hz1 2 (by omega)) (.cons (hz1 3 (by omega)) .nil))))) (by intro e he; simp at he)
        letI : Facts := ⟨[(0, 255), (0, 255), (0, 255), (0, 255), (0, 255)], [], (addOf 70 [(0, 255), (0, 255), (0, 255), (0, 255), (0, 255)] [])⟩
        letI : Env := E
        exact slice_calls addOK hmix (shaped_size hs) (G := 0) (by kernel_rfl) (enter_of Try.func9 (by kernel_rfl) (by kernel_rfl)) (n := 4) (by omega) (by omega) hc1 (cells := [(.sym .u8 0 [(1, 1)]), (.sym .u8 0 [(2, 1)]), (.sym .u8 0 [(3, 1)]), (.sym .u8 0 [(4, 1)])]) rfl
          (by
            intro i v hi
            have hlt : i < 4 := by simpa using (List.getElem?_eq_some_iff.1 hi).1
            rcases (by omega : i = 0 ∨ i = 1 ∨ i = 2 ∨ i = 3) with rfl | rfl | rfl | rfl <;> (simp at hi; subst hi; exact ⟨rfl, fun μ => .sym .u8 (by rw [hE]; simp)⟩))
          (fun μ hμ => .cons (.sym .u8 (by rw [hE]; simp)) (.cons (.slx (fun h0 => hμ h0) (by simp) (by omega)) (.cons (.bool false) .nil))) k0_L4_f
      · obtain ⟨E, hE⟩ := envOf [(0, 255), (0, 255), (0, 255), (0, 255), (0, 255)] [] (addOf 70 [(0, 255), (0, 255), (0, 255), (0, 255), (0, 255)] []) [a0, z1.getD 0 0, z1.getD 1 0, z1.getD 2 0, z1.getD 3 0] (.cons (⟨by omega, by omega⟩) (.cons (hz1 0 (by omega)) (.cons (hz1 1 (by omega)) (.cons (hz1 2 (by omega)) (.cons (hz1 3 (by omega)) .nil))))) (by intro e he; simp at he)
        letI : Facts := ⟨[(0, 255), (0, 255), (0, 255), (0, 255), (0, 255)], [], (addOf 70 [(0, 255), (0, 255), (0, 255), (0, 255), (0, 255)] [])⟩
        letI : Env := E
        exact slice_calls addOK hmix (shaped_size hs) (G := 0) (by kernel_rfl) (enter_of Try.func9 (by kernel_rfl) (by kernel_rfl)) (n := 4) (by omega) (by omega) hc1 (cells := [(.sym .u8 0 [(1, 1)]), (.sym .u8 0 [(2, 1)]), (.sym .u8 0 [(3, 1)]), (.sym .u8 0 [(4, 1)])]) rfl
          (by
            intro i v hi
            have hlt : i < 4 := by simpa using (List.getElem?_eq_some_iff.1 hi).1
            rcases (by omega : i = 0 ∨ i = 1 ∨ i = 2 ∨ i = 3) with rfl | rfl | rfl | rfl <;> (simp at hi; subst hi; exact ⟨rfl, fun μ => .sym .u8 (by rw [hE]; simp)⟩))
          (fun μ hμ => .cons (.sym .u8 (by rw [hE]; simp)) (.cons (.slx (fun h0 => hμ h0) (by simp) (by omega)) (.cons (.bool true) .nil))) k0_L4_t
    · cases a2
      · obtain ⟨E, hE⟩ := envOf [(0, 255), (0, 255), (0, 255), (0, 255), (0, 255), (0, 255)] [] (addOf 70 [(0, 255), (0, 255), (0, 255), (0, 255), (0, 255), (0, 255)] []) [a0, z1.getD 0 0, z1.getD 1 0, z1.getD 2 0, z1.getD 3 0, z1.getD 4 0] (.cons (⟨by omega, by omega⟩) (.cons (hz1 0 (by omega)) (.cons (hz1 1 (by omega)) (.cons (hz1 2 (by omega)) (.cons (hz1 3 (by omega)) (.cons (hz1 4 (by omega)) .nil)))))) (by intro e he; simp at he)
        letI : Facts := ⟨[(0, 255), (0, 255), (0, 255), (0, 255), (0, 255), (0, 255)], [], (addOf 70 [(0, 255), (0, 255), (0, 255), (0, 255), (0, 255), (0, 255)] [])⟩
        letI : Env := E
        exact slice_calls addOK hmix (shaped_size hs) (G := 0) (by kernel_rfl) (enter_of Try.func9 (by kernel_rfl) (by kernel_rfl)) (n := 5) (by omega) (by omega) hc1 (cells := [(.sym .u8 0 [(1, 1)]), (.sym .u8 0 [(2, 1)]), (.sym .u8 0 [(3, 1)]), (.sym .u8 0 [(4, 1)]), (.sym .u8 0 [(5, 1)])]) rfl
          (by
            intro i v hi
            have hlt : i < 5 := by simpa using (List.getElem?_eq_some_iff.1 hi).1
            rcases (by omega : i = 0 ∨ i = 1 ∨ i = 2 ∨ i = 3 ∨ i = 4) with rfl | rfl | rfl | rfl | rfl <;> (simp at hi; subst hi; exact ⟨rfl, fun μ => .sym .u8 (by rw [hE]; simp)⟩))
          (fun μ hμ => .cons (.sym .u8 (by rw [hE]; simp)) (.cons (.slx (fun h0 => hμ h0) (by simp) (by omega)) (.cons (.bool false) .nil))) k0_L5_f
      · obtain ⟨E, hE⟩ := envOf [(0, 255), (0, 255), (0, 255), (0, 255), (0, 255), (0, 255)] [] (addOf 70 [(0, 255), (0, 255), (0, 255), (0, 255), (0, 255), (0, 255)] []) [a0, z1.getD 0 0, z1.getD 1 0, z1.getD 2 0, z1.getD 3 0, z1.getD 4 0] (.cons (⟨by omega, by omega⟩) (.cons (hz1 0 (by omega)) (.cons (hz1 1 (by omega)) (.cons (hz1 2 (by omega)) (.cons (hz1 3 (by omega)) (.cons (hz1 4 (by omega)) .nil)))))) (by intro e he; simp at he)
        letI : Facts := ⟨[(0, 255), (0, 255), (0, 255), (0, 255), (0, 255), (0, 255)], [], (addOf 70 [(0, 255), (0, 255), (0, 255), (0, 255), (0, 255), (0, 255)] [])⟩
        letI : Env := E
        exact slice_calls addOK hmix (shaped_size hs) (G := 0) (by kernel_rfl) (enter_of Try.func9 (by kernel_rfl) (by kernel_rfl)) (n := 5) (by omega) (by omega) hc1 (cells := [(.sym .u8 0 [(1, 1)]), (.sym .u8 0 [(2, 1)]), (.sym .u8 0 [(3, 1)]), (.sym .u8 0 [(4, 1)]), (.sym .u8 0 [(5, 1)])]) rfl
          (by
            intro i v hi
            have hlt : i < 5 := by simpa using (List.getElem?_eq_some_iff.1 hi).1
            rcases (by omega : i = 0 ∨ i = 1 ∨ i = 2 ∨ i = 3 ∨ i = 4) with rfl | rfl | rfl | rfl | rfl <;> (simp at hi; subst hi; exact ⟨rfl, fun μ => .sym .u8 (by rw [hE]; simp)⟩))
          (fun μ hμ => .cons (.sym .u8 (by rw [hE]; simp)) (.cons (.slx (fun h0 => hμ h0) (by simp) (by omega)) (.cons (.bool true) .nil))) k0_L5_t
    · cases a2
      · obtain ⟨E, hE⟩ := envOf [(0, 255), (0, 255), (0, 255), (0, 255), (0, 255), (0, 255), (0, 255)] [] (addOf 70 [(0, 255), (0, 255), (0, 255), (0, 255), (0, 255), (0, 255), (0, 255)] []) [a0, z1.getD 0 0, z1.getD 1 0, z1.getD 2 0, z1.getD 3 0, z1.getD 4 0, z1.getD 5 0] (.cons (⟨by omega, by omega⟩) (.cons (hz1 0 (by omega)) (.cons (hz1 1 (by omega)) (.cons (hz1 2 (by omega)) (.cons (hz1 3 (by omega)) (.cons (hz1 4 (by omega)) (.cons (hz1 5 (by omega)) .nil))))))) (by intro e he; simp at he)
        letI : Facts := ⟨[(0, 255), (0, 255), (0, 255), (0, 255), (0, 255), (0, 255), (0, 255)], [], (addOf 70 [(0, 255), (0, 255), (0, 255), (0, 255), (0, 255), (0, 255), (0, 255)] [])⟩
        letI : Env := E
        exact slice_calls addOK hmix (shaped_size hs) (G := 0) (by kernel_rfl) (enter_of Try.func9 (by kernel_rfl) (by kernel_rfl)) (n := 6) (by omega) (by omega) hc1 (cells := [(.sym .u8 0 [(1, 1)]), (.sym .u8 0 [(2, 1)]), (.sym .u8 0 [(3, 1)]), (.sym .u8 0 [(4, 1)]), (.sym .u8 0 [(5, 1)]), (.sym .u8 0 [(6, 1)])]) rfl
          (by
            intro i v hi
            have hlt : i < 6 := by simpa using (List.getElem?_eq_some_iff.1 hi).1
            rcases (by omega : i = 0 ∨ i = 1 ∨ i = 2 ∨ i = 3 ∨ i = 4 ∨ i = 5) with rfl | rfl | rfl | rfl | rfl | rfl <;> (simp at hi; subst hi; exact ⟨rfl, fun μ => .sym .u8 (by rw [hE]; simp)⟩))
          (fun μ hμ => .cons (.sym .u8 (by rw [hE]; simp)) (.cons (.slx (fun h0 => hμ h0) (by simp) (by omega)) (.cons (.bool false) .nil))) k0_L6_f
      · obtain ⟨E, hE⟩ := envOf [(0, 255), (0, 255), (0, 255), (0, 255), (0, 255), (0, 255), (0, 255)] [] (addOf 70 [(0, 255), (0, 255), (0, 255), (0, 255), (0, 255), (0, 255), (0, 255)] []) [a0, z1.getD 0 0, z1.getD 1 0, z1.getD 2 0, z1.getD 3 0, z1.getD 4 0, z1.getD 5 0] (.cons (⟨by omega, by omega⟩) (.cons (hz1 0 (by omega)) (.cons (hz1 1 (by omega)) (.cons (hz1 2 (by omega)) (.cons (hz1 3 (by omega)) (.cons (hz1 4 (by omega)) (.cons (hz1 5 (by omega)) .nil))))))) (by intro e he; simp at he)
        letI : Facts := ⟨[(0, 255), (0, 255), (0, 255), (0, 255), (0, 255), (0, 255), (0, 255)], [], (addOf 70 [(0, 255), (0, 255), (0, 255), (0, 255), (0, 255), (0, 255), (0, 255)] [])⟩
        letI : Env := E
        exact slice_calls addOK hmix (shaped_size hs) (G := 0) (by kernel_rfl) (enter_of Try.func9 (by kernel_rfl) (by kernel_rfl)) (n := 6) (by omega) (by omega) hc1 (cells := [(.sym .u8 0 [(1, 1)]), (.sym .u8 0 [(2, 1)]), (.sym .u8 0 [(3, 1)]), (.sym .u8 0 [(4, 1)]), (.sym .u8 0 [(5, 1)]), (.sym .u8 0 [(6, 1)])]) rfl
          (by
            intro i v hi
            have hlt : i < 6 := by simpa using (List.getElem?_eq_some_iff.1 hi).1
            rcases (by omega : i = 0 ∨ i = 1 ∨ i = 2 ∨ i = 3 ∨ i = 4 ∨ i = 5) with rfl | rfl | rfl | rfl | rfl | rfl <;> (simp at hi; subst hi; exact ⟨rfl, fun μ => .sym .u8 (by rw [hE]; simp)⟩))
          (fun μ hμ => .cons (.sym .u8 (by rw [hE]; simp)) (.cons (.slx (fun h0 => hμ h0) (by simp) (by omega)) (.cons (.bool true) .nil))) k0_L6_t
    · cases a2
      · obtain ⟨E, hE⟩ := envOf [(0, 255), (0, 255), (0, 255), (0, 255), (0, 255), (0, 255), (0, 255), (0, 255)] [] (addOf 70 [(0, 255), (0, 255), (0, 255), (0, 255), (0, 255), (0, 255), (0, 255), (0, 255)] []) [a0, z1.getD 0 0, z1.getD 1 0, z1.getD 2 0, z1.getD 3 0, z1.getD 4 0, z1.getD 5 0, z1.getD 6 0] (.cons (⟨by omega, by omega⟩) (.cons (hz1 0 (by omega)) (.cons (hz1 1 (by omega)) (.cons (hz1 2 (by omega)) (.cons (hz1 3 (by omega)) (.cons (hz1 4 (by omega)) (.cons (hz1 5 (by omega)) (.cons (hz1 6 (by omega)) .nil)))))))) (by intro e he; simp at he)
        letI : Facts := ⟨[(0, 255), (0, 255), (0, 255), (0, 255), (0, 255), (0, 255), (0, 255), (0, 255)], [], (addOf 70 [(0, 255), (0, 255), (0, 255), (0, 255), (0, 255), (0, 255), (0, 255), (0, 255)] [])⟩
        letI : Env := E
        exact slice_calls addOK hmix (shaped_size hs) (G := 0) (by kernel_rfl) (enter_of Try.func9 (by kernel_rfl) (by kernel_rfl)) (n := 7) (by omega) (by omega) hc1 (cells := [(.sym .u8 0 [(1, 1)]), (.sym .u8 0 [(2, 1)]), (.sym .u8 0 [(3, 1)]), (.sym .u8 0 [(4, 1)]), (.sym .u8 0 [(5, 1)]), (.sym .u8 0 [(6, 1)]), (.sym .u8 0 [(7, 1)])]) rfl
          (by
            intro i v hi
            have hlt : i < 7 := by simpa using (List.getElem?_eq_some_iff.1 hi).1
            rcases (by omega : i = 0 ∨ i = 1 ∨ i = 2 ∨ i = 3 ∨ i = 4 ∨ i = 5 ∨ i = 6) with rfl | rfl | rfl | rfl | rfl | rfl | rfl <;> (simp at hi; subst hi; exact ⟨rfl, fun μ => .sym .u8 (by rw [hE]; simp)⟩))
          (fun μ hμ => .cons (.sym .u8 (by rw [hE]; simp)) (.cons (.slx (fun h0 => hμ h0) (by simp) (by omega)) (.cons (.bool false) .nil))) k0_L7_f
      · obtain ⟨E, hE⟩ := envOf [(0, 255), (0, 255), (0, 255), (0, 255), (0, 255), (0, 255), (0, 255), (0, 255)] [] (addOf 70 [(0, 255), (0, 255), (0, 255), (0, 255), (0, 255), (0, 255), (0, 255), (0, 255)] []) [a0, z1.getD 0 0, z1.getD 1 0, z1.getD 2 0, z1.getD 3 0, z1.getD 4 0, z1.getD 5 0, z1.getD 6 0] (.cons (⟨by omega, by omega⟩) (.cons (hz1 0 (by omega)) (.cons (hz1 1 (by omega)) (.cons (hz1 2 (by omega)) (.cons (hz1 3 (by omega)) (.cons (hz1 4 (by omega)) (.cons (hz1 5 (by omega)) (.cons (hz1 6 (by omega)) .nil)))))))) (by intro e he; simp at he)
        letI : Facts := ⟨[(0, 255), (0, 255), (0, 255), (0, 255), (0, 255), (0, 255), (0, 255), (0, 255)], [], (addOf 70 [(0, 255), (0, 255), (0, 255), (0, 255), (0, 255), (0, 255), (0, 255), (0, 255)] [])⟩
        letI : Env := E
        exact slice_calls addOK hmix (shaped_size hs) (G := 0) (by kernel_rfl) (enter_of Try.func9 (by kernel_rfl) (by kernel_rfl)) (n := 7) (by omega) (by omega) hc1 (cells := [(.sym .u8 0 [(1, 1)]), (.sym .u8 0 [(2, 1)]), (.sym .u8 0 [(3, 1)]), (.sym .u8 0 [(4, 1)]), (.sym .u8 0 [(5, 1)]), (.sym .u8 0 [(6, 1)]), (.sym .u8 0 [(7, 1)])]) rfl
          (by
            intro i v hi
            have hlt : i < 7 := by simpa using (List.getElem?_eq_some_iff.1 hi).1
            rcases (by omega : i = 0 ∨ i = 1 ∨ i = 2 ∨ i = 3 ∨ i = 4 ∨ i = 5 ∨ i = 6) with rfl | rfl | rfl | rfl | rfl | rfl | rfl <;> (simp at hi; subst hi; exact ⟨rfl, fun μ => .sym .u8 (by rw [hE]; simp)⟩))
          (fun μ hμ => .cons (.sym .u8 (by rw [hE]; simp)) (.cons (.slx (fun h0 => hμ h0) (by simp) (by omega)) (.cons (.bool true) .nil))) k0_L7_t
    · cases a2
      · obtain ⟨E, hE⟩ := envOf [(0, 255), (0, 255), (0, 255), (0, 255), (0, 255), (0, 255), (0, 255), (0, 255), (0, 255)] [] (addOf 70 [(0, 255), (0, 255), (0, 255), (0, 255), (0, 255), (0, 255), (0, 255), (0, 255), (0, 255)] []) [a0, z1.getD 0 0, z1.getD 1 0, z1.getD 2 0, z1.getD 3 0, z1.getD 4 0, z1.getD 5 0, z1.getD 6 0, z1.getD 7 0] (.cons (⟨by omega, by omega⟩) (.cons (hz1 0 (by omega)) (.cons (hz1 1 (by omega)) (.cons (hz1 2 (by omega)) (.cons (hz1 3 (by omega)) (.cons (hz1 4 (by omega)) (.cons (hz1 5 (by omega)) (.cons (hz1 6 (by omega)) (.cons (hz1 7 (by omega)) .nil))))))))) (by intro e he; simp at he)
        letI : Facts := ⟨[(0, 255), (0, 255), (0, 255), (0, 255), (0, 255), (0, 255), (0, 255), (0, 255), (0, 255)], [], (addOf 70 [(0, 255), (0, 255), (0, 255), (0, 255), (0, 255), (0, 255), (0, 255), (0, 255), (0, 255)] [])⟩
        letI : Env := E
        exact slice_calls addOK hmix (shaped_size hs) (G := 0) (by kernel_rfl) (enter_of Try.func9 (by kernel_rfl) (by kernel_rfl)) (n := 8) (by omega) (by omega) hc1 (cells := [(.sym .u8 0 [(1, 1)]), (.sym .u8 0 [(2, 1)]), (.sym .u8 0 [(3, 1)]), (.sym .u8 0 [(4, 1)]), (.sym .u8 0 [(5, 1)]), (.sym .u8 0 [(6, 1)]), (.sym .u8 0 [(7, 1)]), (.sym .u8 0 [(8, 1)])]) rfl
          (by
            intro i v hi
            have hlt : i < 8 := by simpa using (List.getElem?_eq_some_iff.1 hi).1
            rcases (by omega : i = 0 ∨ i = 1 ∨ i = 2 ∨ i = 3 ∨ i = 4 ∨ i = 5 ∨ i = 6 ∨ i = 7) with rfl | rfl | rfl | rfl | rfl | rfl | rfl | rfl <;> (simp at hi; subst hi; exact ⟨rfl, fun μ => .sym .u8 (by rw [hE]; simp)⟩))
          (fun μ hμ => .cons (.sym .u8 (by rw [hE]; simp)) (.cons (.slx (fun h0 => hμ h0) (by simp) (by omega)) (.cons (.bool false) .nil))) k0_L8_f
      · obtain ⟨E, hE⟩ := envOf [(0, 255), (0, 255), (0, 255), (0, 255), (0, 255), (0, 255), (0, 255), (0, 255), (0, 255)] [] (addOf 70 [(0, 255), (0, 255), (0, 255), (0, 255), (0, 255), (0, 255), (0, 255), (0, 255), (0, 255)] []) [a0, z1.getD 0 0, z1.getD 1 0, z1.getD 2 0, z1.getD 3 0, z1.getD 4 0, z1.getD 5 0, z1.getD 6 0, z1.getD 7 0] (.cons (⟨by omega, by omega⟩) (.cons (hz1 0 (by omega)) (.cons (hz1 1 (by omega)) (.cons (hz1 2 (by omega)) (.cons (hz1 3 (by omega)) (.cons (hz1 4 (by omega)) (.cons (hz1 5 (by omega)) (.cons (hz1 6 (by omega)) (.cons (hz1 7 (by omega)) .nil))))))))) (by intro e he; simp at he)
        letI : Facts := ⟨[(0, 255), (0, 255), (0, 255), (0, 255), (0, 255), (0, 255), (0, 255), (0, 255), (0, 255)], [], (addOf 70 [(0, 255), (0, 255), (0, 255), (0, 255), (0, 255), (0, 255), (0, 255), (0, 255), (0, 255)] [])⟩
        letI : Env := E
        exact slice_calls addOK hmix (shaped_size hs) (G := 0) (by kernel_rfl) (enter_of Try.func9 (by kernel_rfl) (by kernel_rfl)) (n := 8) (by omega) (by omega) hc1 (cells := [(.sym .u8 0 [(1, 1)]), (.sym .u8 0 [(2, 1)]), (.sym .u8 0 [(3, 1)]), (.sym .u8 0 [(4, 1)]), (.sym .u8 0 [(5, 1)]), (.sym .u8 0 [(6, 1)]), (.sym .u8 0 [(7, 1)]), (.sym .u8 0 [(8, 1)])]) rfl
          (by
            intro i v hi
            have hlt : i < 8 := by simpa using (List.getElem?_eq_some_iff.1 hi).1
            rcases (by omega : i = 0 ∨ i = 1 ∨ i = 2 ∨ i = 3 ∨ i = 4 ∨ i = 5 ∨ i = 6 ∨ i = 7) with rfl | rfl | rfl | rfl | rfl | rfl | rfl | rfl <;> (simp at hi; subst hi; exact ⟨rfl, fun μ => .sym .u8 (by rw [hE]; simp)⟩))
          (fun μ hμ => .cons (.sym .u8 (by rw [hE]; simp)) (.cons (.slx (fun h0 => hμ h0) (by simp) (by omega)) (.cons (.bool true) .nil))) k0_L8_t
    · cases a2
      · obtain ⟨E, hE⟩ := envOf [(0, 255), (0, 255), (0, 255), (0, 255), (0, 255), (0, 255), (0, 255), (0, 255), (0, 255), (0, 255)] [] (addOf 70 [(0, 255), (0, 255), (0, 255), (0, 255), (0, 255), (0, 255), (0, 255), (0, 255), (0, 255), (0, 255)] []) [a0, z1.getD 0 0, z1.getD 1 0, z1.getD 2 0, z1.getD 3 0, z1.getD 4 0, z1.getD 5 0, z1.getD 6 0, z1.getD 7 0, z1.getD 8 0] (.cons (⟨by omega, by omega⟩) (.cons (hz1 0 (by omega)) (.cons (hz1 1 (by omega)) (.cons (hz1 2 (by omega)) (.cons (hz1 3 (by omega)) (.cons (hz1 4 (by omega)) (.cons (hz1 5 (by omega)) (.cons (hz1 6 (by omega)) (.cons (hz1 7 (by omega)) (.cons (hz1 8 (by omega)) .nil)))))))))) (by intro e he; simp at he)
        letI : Facts := ⟨[(0, 255), (0, 255), (0, 255), (0, 255), (0, 255), (0, 255), (0, 255), (0, 255), (0, 255), (0, 255)], [], (addOf 70 [(0, 255), (0, 255), (0, 255), (0, 255), (0, 255), (0, 255), (0, 255), (0, 255), (0, 255), (0, 255)] [])⟩
        letI : Env := E
        exact slice_calls addOK hmix (shaped_size hs) (G := 0) (by kernel_rfl) (enter_of Try.func9 (by kernel_rfl) (by kernel_rfl)) (n := 9) (by omega) (by omega) hc1 (cells := [(.sym .u8 0 [(1, 1)]), (.sym .u8 0 [(2, 1)]), (.sym .u8 0 [(3, 1)]), (.sym .u8 0 [(4, 1)]), (.sym .u8 0 [(5, 1)]), (.sym .u8 0 [(6, 1)]), (.sym .u8 0 [(7, 1)]), (.sym .u8 0 [(8, 1)]), (.sym .u8 0 [(9, 1)])]) rfl
          (by
            intro i v hi
            have hlt : i < 9 := by simpa using (List.getElem?_eq_some_iff.1 hi).1
            rcases (by omega : i = 0 ∨ i = 1 ∨ i = 2 ∨ i = 3 ∨ i = 4 ∨ i = 5 ∨ i = 6 ∨ i = 7 ∨ i = 8) with rfl | rfl | rfl | rfl | rfl | rfl | rfl | rfl | rfl <;> (simp at hi; subst hi; exact ⟨rfl, fun μ => .sym .u8 (by rw [hE]; simp)⟩))
          (fun μ hμ => .cons (.sym .u8 (by rw [hE]; simp)) (.cons (.slx (fun h0 => hμ h0) (by simp) (by omega)) (.cons (.bool false) .nil))) k0_L9_f
      · obtain ⟨E, hE⟩ := envOf [(0, 255), (0, 255), (0, 255), (0, 255), (0, 255), (0, 255), (0, 255), (0, 255), (0, 255), (0, 255)] [] (addOf 70 [(0, 255), (0, 255), (0, 255), (0, 255), (0, 255), (0, 255), (0, 255), (0, 255), (0, 255), (0, 255)] []) [a0, z1.getD 0 0, z1.getD 1 0, z1.getD 2 0, z1.getD 3 0, z1.getD 4 0, z1.getD 5 0, z1.getD 6 0, z1.getD 7 0, z1.getD 8 0] (.cons (⟨by omega, by omega⟩) (.cons (hz1 0 (by omega)) (.cons (hz1 1 (by omega)) (.cons (hz1 2 (by omega)) (.cons (hz1 3 (by omega)) (.cons (hz1 4 (by omega)) (.cons (hz1 5 (by omega)) (.cons (hz1 6 (by omega)) (.cons (hz1 7 (by omega)) (.cons (hz1 8 (by omega)) .nil)))))))))) (by intro e he; simp at he)
        letI : Facts := ⟨[(0, 255), (0, 255), (0, 255), (0, 255), (0, 255), (0, 255), (0, 255), (0, 255), (0, 255), (0, 255)], [], (addOf 70 [(0, 255), (0, 255), (0, 255), (0, 255), (0, 255), (0, 255), (0, 255), (0, 255), (0, 255), (0, 255)] [])⟩
        letI : Env := E
        exact slice_calls addOK hmix (shaped_size hs) (G := 0) (by kernel_rfl) (enter_of Try.func9 (by kernel_rfl) (by kernel_rfl)) (n := 9) (by omega) (by omega) hc1 (cells := [(.sym .u8 0 [(1, 1)]), (.sym .u8 0 [(2, 1)]), (.sym .u8 0 [(3, 1)]), (.sym .u8 0 [(4, 1)]), (.sym .u8 0 [(5, 1)]), (.sym .u8 0 [(6, 1)]), (.sym .u8 0 [(7, 1)]), (.sym .u8 0 [(8, 1)]), (.sym .u8 0 [(9, 1)])]) rfl
          (by
            intro i v hi
            have hlt : i < 9 := by simpa using (List.getElem?_eq_some_iff.1 hi).1
            rcases (by omega : i = 0 ∨ i = 1 ∨ i = 2 ∨ i = 3 ∨ i = 4 ∨ i = 5 ∨ i = 6 ∨ i = 7 ∨ i = 8) with rfl | rfl | rfl | rfl | rfl | rfl | rfl | rfl | rfl <;> (simp at hi; subst hi; exact ⟨rfl, fun μ => .sym .u8 (by rw [hE]; simp)⟩))
          (fun μ hμ => .cons (.sym .u8 (by rw [hE]; simp)) (.cons (.slx (fun h0 => hμ h0) (by simp) (by omega)) (.cons (.bool true) .nil))) k0_L9_t
    · cases a2
      · obtain ⟨E, hE⟩ := envOf [(0, 255), (0, 255), (0, 255), (0, 255), (0, 255), (0, 255), (0, 255), (0, 255), (0, 255), (0, 255), (0, 255)] [] (addOf 70 [(0, 255), (0, 255), (0, 255), (0, 255), (0, 255), (0, 255), (0, 255), (0, 255), (0, 255), (0, 255), (0, 255)] []) [a0, z1.getD 0 0, z1.getD 1 0, z1.getD 2 0, z1.getD 3 0, z1.getD 4 0, z1.getD 5 0, z1.getD 6 0, z1.getD 7 0, z1.getD 8 0, z1.getD 9 0] (.cons (⟨by omega, by omega⟩) (.cons (hz1 0 (by omega)) (.cons (hz1 1 (by omega)) (.cons (hz1 2 (by omega)) (.cons (hz1 3 (by omega)) (.cons (hz1 4 (by omega)) (.cons (hz1 5 (by omega)) (.cons (hz1 6 (by omega)) (.cons (hz1 7 (by omega)) (.cons (hz1 8 (by omega)) (.cons (hz1 9 (by omega)) .nil))))))))))) (by intro e he; simp at he)
        letI : Facts := ⟨[(0, 255), (0, 255), (0, 255), (0, 255), (0, 255), (0, 255), (0, 255), (0, 255), (0, 255), (0, 255), (0, 255)], [], (addOf 70 [(0, 255), (0, 255), (0, 255), (0, 255), (0, 255), (0, 255), (0, 255), (0, 255), (0, 255), (0, 255), (0, 255)] [])⟩
        letI : Env := E
        exact slice_calls addOK hmix (shaped_size hs) (G := 0) (by kernel_rfl) (enter_of Try.func9 (by kernel_rfl) (by kernel_rfl)) (n := 10) (by omega) (by omega) hc1 (cells := [(.sym .u8 0 [(1, 1)]), (.sym .u8 0 [(2, 1)]), (.sym .u8 0 [(3, 1)]), (.sym .u8 0 [(4, 1)]), (.sym .u8 0 [(5, 1)]), (.sym .u8 0 [(6, 1)]), (.sym .u8 0 [(7, 1)]), (.sym .u8 0 [(8, 1)]), (.sym .u8 0 [(9, 1)]), (.sym .u8 0 [(10, 1)])]) rfl
          (by
            intro i v hi
            have hlt : i < 10 := by simpa using (List.getElem?_eq_some_iff.1 hi).1
            rcases (by omega : i = 0 ∨ i = 1 ∨ i = 2 ∨ i = 3 ∨ i = 4 ∨ i = 5 ∨ i = 6 ∨ i = 7 ∨ i = 8 ∨ i = 9) with rfl | rfl | rfl | rfl | rfl | rfl | rfl | rfl | rfl | rfl <;> (simp at hi; subst hi; exact ⟨rfl, fun μ => .sym .u8 (by rw [hE]; simp)⟩))
          (fun μ hμ => .cons (.sym .u8 (by rw [hE]; simp)) (.cons (.slx (fun h0 => hμ h0) (by simp) (by omega)) (.cons (.bool false) .nil))) k0_L10_f
      · obtain ⟨E, hE⟩ := envOf [(0, 255), (0, 255), (0, 255), (0, 255), (0, 255), (0, 255), (0, 255), (0, 255), (0, 255), (0, 255), (0, 255)] [] (addOf 70 [(0, 255), (0, 255), (0, 255), (0, 255), (0, 255), (0, 255), (0, 255), (0, 255), (0, 255), (0, 255), (0, 255)] []) [a0, z1.getD 0 0, z1.getD 1 0, z1.getD 2 0, z1.getD 3 0, z1.getD 4 0, z1.getD 5 0, z1.getD 6 0, z1.getD 7 0, z1.getD 8 0, z1.getD 9 0] (.cons (⟨by omega, by omega⟩) (.cons (hz1 0 (by omega)) (.cons (hz1 1 (by omega)) (.cons (hz1 2 (by omega)) (.cons (hz1 3 (by omega)) (.cons (hz1 4 (by omega)) (.cons (hz1 5 (by omega)) (.cons (hz1 6 (by omega)) (.cons (hz1 7 (by omega)) (.cons (hz1 8 (by omega)) (.cons (hz1 9 (by omega)) .nil))))))))))) (by intro e he; simp at he)
        letI : Facts := ⟨[(0, 255), (0, 255), (0, 255), (0, 255), (0, 255), (0, 255), (0, 255), (0, 255), (0, 255), (0, 255), (0, 255)], [], (addOf 70 [(0, 255), (0, 255), (0, 255), (0, 255), (0, 255), (0, 255), (0, 255), (0, 255), (0, 255), (0, 255), (0, 255)] [])⟩
        letI : Env := E
        exact slice_calls addOK hmix (shaped_size hs) (G := 0) (by kernel_rfl) (enter_of Try.func9 (by kernel_rfl) (by kernel_rfl)) (n := 10) (by omega) (by omega) hc1 (cells := [(.sym .u8 0 [(1, 1)]), (.sym .u8 0 [(2, 1)]), (.sym .u8 0 [(3, 1)]), (.sym .u8 0 [(4, 1)]), (.sym .u8 0 [(5, 1)]), (.sym .u8 0 [(6, 1)]), (.sym .u8 0 [(7, 1)]), (.sym .u8 0 [(8, 1)]), (.sym .u8 0 [(9, 1)]), (.sym .u8 0 [(10, 1)])]) rfl
          (by
            intro i v hi
            have hlt : i < 10 := by simpa using (List.getElem?_eq_some_iff.1 hi).1
            rcases (by omega : i = 0 ∨ i = 1 ∨ i = 2 ∨ i = 3 ∨ i = 4 ∨ i = 5 ∨ i = 6 ∨ i = 7 ∨ i = 8 ∨ i = 9) with rfl | rfl | rfl | rfl | rfl | rfl | rfl | rfl | rfl | rfl <;> (simp at hi; subst hi; exact ⟨rfl, fun μ => .sym .u8 (by rw [hE]; simp)⟩))
          (fun μ hμ => .cons (.sym .u8 (by rw [hE]; simp)) (.cons (.slx (fun h0 => hμ h0) (by simp) (by omega)) (.cons (.bool true) .nil))) k0_L10_t
    · cases a2
      · obtain ⟨E, hE⟩ := envOf [(0, 255), (0, 255), (0, 255), (0, 255), (0, 255), (0, 255), (0, 255), (0, 255), (0, 255), (0, 255), (0, 255), (0, 255)] [] (addOf 70 [(0, 255), (0, 255), (0, 255), (0, 255), (0, 255), (0, 255), (0, 255), (0, 255), (0, 255), (0, 255), (0, 255), (0, 255)] []) [a0, z1.getD 0 0, z1.getD 1 0, z1.getD 2 0, z1.getD 3 0, z1.getD 4 0, z1.getD 5 0, z1.getD 6 0, z1.getD 7 0, z1.getD 8 0, z1.getD 9 0, z1.getD 10 0] (.cons (⟨by omega, by omega⟩) (.cons (hz1 0 (by omega)) (.cons (hz1 1 (by omega)) (.cons (hz1 2 (by omega)) (.cons (hz1 3 (by omega)) (.cons (hz1 4 (by omega)) (.cons (hz1 5 (by omega)) (.cons (hz1 6 (by omega)) (.cons (hz1 7 (by omega)) (.cons (hz1 8 (by omega)) (.cons (hz1 9 (by omega)) (.cons (hz1 10 (by omega)) .nil)))))))))))) (by intro e he; simp at he)
        letI : Facts := ⟨[(0, 255), (0, 255), (0, 255), (0, 255), (0, 255), (0, 255), (0, 255), (0, 255), (0, 255), (0, 255), (0, 255), (0, 255)], [], (addOf 70 [(0, 255), (0, 255), (0, 255), (0, 255), (0, 255), (0, 255), (0, 255), (0, 255), (0, 255), (0, 255), (0, 255), (0, 255)] [])⟩
        letI : Env := E
        exact slice_calls addOK hmix (shaped_size hs) (G := 0) (by kernel_rfl) (enter_of Try.func9 (by kernel_rfl) (by kernel_rfl)) (n := 11) (by omega) (by omega) hc1 (cells := [(.sym .u8 0 [(1, 1)]), (.sym .u8 0 [(2, 1)]), (.sym .u8 0 [(3, 1)]), (.sym .u8 0 [(4, 1)]), (.sym .u8 0 [(5, 1)]), (.sym .u8 0 [(6, 1)]), (.sym .u8 0 [(7, 1)]), (.sym .u8 0 [(8, 1)]), (.sym .u8 0 [(9, 1)]), (.sym .u8 0 [(10, 1)]), (.sym .u8 0 [(11, 1)])]) rfl
          (by
            intro i v hi
            have hlt : i < 11 := by simpa using (List.getElem?_eq_some_iff.1 hi).1
            rcases (by omega : i = 0 ∨ i = 1 ∨ i = 2 ∨ i = 3 ∨ i = 4 ∨ i = 5 ∨ i = 6 ∨ i = 7 ∨ i = 8 ∨ i = 9 ∨ i = 10) with rfl | rfl | rfl | rfl | rfl | rfl | rfl | rfl | rfl | rfl | rfl <;> (simp at hi; subst hi; exact ⟨rfl, fun μ => .sym .u8 (by rw [hE]; simp)⟩))
          (fun μ hμ => .cons (.sym .u8 (by rw [hE]; simp)) (.cons (.slx (fun h0 => hμ h0) (by simp) (by omega)) (.cons (.bool false) .nil))) k0_L11_f
      · obtain ⟨E, hE⟩ := envOf [(0, 255), (0, 255), (0, 255), (0, 255), (0, 255), (0, 255), (0, 255), (0, 255), (0, 255), (0, 255), (0, 255), (0, 255)] [] (addOf 70 [(0, 255), (0, 255), (0, 255), (0, 255), (0, 255), (0, 255), (0, 255), (0, 255), (0, 255), (0, 255), (0, 255), (0, 255)] []) [a0, z1.getD 0 0, z1.getD 1 0, z1.getD 2 0, z1.getD 3 0, z1.getD 4 0, z1.getD 5 0, z1.getD 6 0, z1.getD 7 0, z1.getD 8 0, z1.getD 9 0, z1.getD 10 0] (.cons (⟨by omega, by omega⟩) (.cons (hz1 0 (by omega)) (.cons (hz1 1 (by omega)) (.cons (hz1 2 (by omega)) (.cons (hz1 3 (by omega)) (.cons (hz1 4 (by omega)) (.cons (hz1 5 (by omega)) (.cons (hz1 6 (by omega)) (.cons (hz1 7 (by omega)) (.cons (hz1 8 (by omega)) (.cons (hz1 9 (by omega)) (.cons (hz1 10 (by omega)) .nil)))))))))))) (by intro e he; simp at he)
        letI : Facts := ⟨[(0, 255), (0, 255), (0, 255), (0, 255), (0, 255), (0, 255), (0, 255), (0, 255), (0, 255), (0, 255), (0, 255), (0, 255)], [], (addOf 70 [(0, 255), (0, 255), (0, 255), (0, 255), (0, 255), (0, 255), (0, 255), (0, 255), (0, 255), (0, 255), (0, 255), (0, 255)] [])⟩
        letI : Env := E
        exact slice_calls addOK hmix (shaped_size hs) (G := 0) (by kernel_rfl) (enter_of Try.func9 (by kernel_rfl) (by kernel_rfl)) (n := 11) (by omega) (by omega) hc1 (cells := [(.sym .u8 0 [(1, 1)]), (.sym .u8 0 [(2, 1)]), (.sym .u8 0 [(3, 1)]), (.sym .u8 0 [(4, 1)]), (.sym .u8 0 [(5, 1)]), (.sym .u8 0 [(6, 1)]), (.sym .u8 0 [(7, 1)]), (.sym .u8 0 [(8, 1)]), (.sym .u8 0 [(9, 1)]), (.sym .u8 0 [(10, 1)]), (.sym .u8 0 [(11, 1)])]) rfl
          (by
            intro i v hi
            have hlt : i < 11 := by simpa using (List.getElem?_eq_some_iff.1 hi).1
            rcases (by omega : i = 0 ∨ i = 1 ∨ i = 2 ∨ i = 3 ∨ i = 4 ∨ i = 5 ∨ i = 6 ∨ i = 7 ∨ i = 8 ∨ i = 9 ∨ i = 10) with rfl | rfl | rfl | rfl | rfl | rfl | rfl | rfl | rfl | rfl | rfl <;> (simp at hi; subst hi; exact ⟨rfl, fun μ => .sym .u8 (by rw [hE]; simp)⟩))
          (fun μ hμ => .cons (.sym .u8 (by rw [hE]; simp)) (.cons (.slx (fun h0 => hμ h0) (by simp) (by omega)) (.cons (.bool true) .nil))) k0_L11_t
    · cases a2
      · obtain ⟨E, hE⟩ := envOf [(0, 255), (0, 255), (0, 255), (0, 255), (0, 255), (0, 255), (0, 255), (0, 255), (0, 255), (0, 255), (0, 255), (0, 255), (0, 255)] [] (addOf 70 [(0, 255), (0, 255), (0, 255), (0, 255), (0, 255), (0, 255), (0, 255), (0, 255), (0, 255), (0, 255), (0, 255), (0, 255), (0, 255)] []) [a0, z1.getD 0 0, z1.getD 1 0, z1.getD 2 0, z1.getD 3 0, z1.getD 4 0, z1.getD 5 0, z1.getD 6 0, z1.getD 7 0, z1.getD 8 0, z1.getD 9 0, z1.getD 10 0, z1.getD 11 0] (.cons (⟨by omega, by omega⟩) (.cons (hz1 0 (by omega)) (.cons (hz1 1 (by omega)) (.cons (hz1 2 (by omega)) (.cons (hz1 3 (by omega)) (.cons (hz1 4 (by omega)) (.cons (hz1 5 (by omega)) (.cons (hz1 6 (by omega)) (.cons (hz1 7 (by omega)) (.cons (hz1 8 (by omega)) (.cons (hz1 9 (by omega)) (.cons (hz1 10 (by omega)) (.cons (hz1 11 (by omega)) .nil))))))))))))) (by intro e he; simp at he)
        letI : Facts := ⟨[(0, 255), (0, 255), (0, 255), (0, 255), (0, 255), (0, 255), (0, 255), (0, 255), (0, 255), (0, 255), (0, 255), (0, 255), (0, 255)], [], (addOf 70 [(0, 255), (0, 255), (0, 255), (0, 255), (0, 255), (0, 255), (0, 255), (0, 255), (0, 255), (0, 255), (0, 255), (0, 255), (0, 255)] [])⟩
        letI : Env := E
        exact slice_calls addOK hmix (shaped_size hs) (G := 0) (by kernel_rfl) (enter_of Try.func9 (by kernel_rfl) (by kernel_rfl)) (n := 12) (by omega) (by omega) hc1 (cells := [(.sym .u8 0 [(1, 1)]), (.sym .u8 0 [(2, 1)]), (.sym .u8 0 [(3, 1)]), (.sym .u8 0 [(4, 1)]), (.sym .u8 0 [(5, 1)]), (.sym .u8 0 [(6, 1)]), (.sym .u8 0 [(7, 1)]), (.sym .u8 0 [(8, 1)]), (.sym .u8 0 [(9, 1)]), (.sym .u8 0 [(10, 1)]), (.sym .u8 0 [(11, 1)]), (.sym .u8 0 [(12, 1)])]) rfl
          (by
            intro i v hi
            have hlt : i < 12 := by simpa using (List.getElem?_eq_some_iff.1 hi).1
            rcases (by omega : i = 0 ∨ i = 1 ∨ i = 2 ∨ i = 3 ∨ i = 4 ∨ i = 5 ∨ i = 6 ∨ i = 7 ∨ i = 8 ∨ i = 9 ∨ i = 10 ∨ i = 11) with rfl | rfl | rfl | rfl | rfl | rfl | rfl | rfl | rfl | rfl | rfl | rfl <;> (simp at hi; subst hi; exact ⟨rfl, fun μ => .sym .u8 (by rw [hE]; simp)⟩))
          (fun μ hμ => .cons (.sym .u8 (by rw [hE]; simp)) (.cons (.slx (fun h0 => hμ h0) (by simp) (by omega)) (.cons (.bool false) .nil))) k0_L12_f
      · obtain ⟨E, hE⟩ := envOf [(0, 255), (0, 255), (0, 255), (0, 255), (0, 255), (0, 255), (0, 255), (0, 255), (0, 255), (0, 255), (0, 255), (0, 255), (0, 255)] [] (addOf 70 [(0, 255), (0, 255), (0, 255), (0, 255), (0, 255), (0, 255), (0, 255), (0, 255), (0, 255), (0, 255), (0, 255), (0, 255), (0, 255)] []) [a0, z1.getD 0 0, z1.getD 1 0, z1.getD 2 0, z1.getD 3 0, z1.getD 4 0, z1.getD 5 0, z1.getD 6 0, z1.getD 7 0, z1.getD 8 0, z1.getD 9 0, z1.getD 10 0, z1.getD 11 0] (.cons (⟨by omega, by omega⟩) (.cons (hz1 0 (by omega)) (.cons (hz1 1 (by omega)) (.cons (hz1 2 (by omega)) (.cons (hz1 3 (by omega)) (.cons (hz1 4 (by omega)) (.cons (hz1 5 (by omega)) (.cons (hz1 6 (by omega)) (.cons (hz1 7 (by omega)) (.cons (hz1 8 (by omega)) (.cons (hz1 9 (by omega)) (.cons (hz1 10 (by omega)) (.cons (hz1 11 (by omega)) .nil))))))))))))) (by intro e he; simp at he)
        letI : Facts := ⟨[(0, 255), (0, 255), (0, 255), (0, 255), (0, 255), (0, 255), (0, 255), (0, 255), (0, 255), (0, 255), (0, 255), (0, 255), (0, 255)], [], (addOf 70 [(0, 255), (0, 255), (0, 255), (0, 255), (0, 255), (0, 255), (0, 255), (0, 255), (0, 255), (0, 255), (0, 255), (0, 255), (0, 255)] [])⟩
        letI : Env := E
        exact slice_calls addOK hmix (shaped_size hs) (G := 0) (by kernel_rfl) (enter_of Try.func9 (by kernel_rfl) (by kernel_rfl)) (n := 12) (by omega) (by omega) hc1 (cells := [(.sym .u8 0 [(1, 1)]), (.sym .u8 0 [(2, 1)]), (.sym .u8 0 [(3, 1)]), (.sym .u8 0 [(4, 1)]), (.sym .u8 0 [(5, 1)]), (.sym .u8 0 [(6, 1)]), (.sym .u8 0 [(7, 1)]), (.sym .u8 0 [(8, 1)]), (.sym .u8 0 [(9, 1)]), (.sym .u8 0 [(10, 1)]), (.sym .u8 0 [(11, 1)]), (.sym .u8 0 [(12, 1)])]) rfl
          (by
            intro i v hi
            have hlt : i < 12 := by simpa using (List.getElem?_eq_some_iff.1 hi).1
            rcases (by omega : i = 0 ∨ i = 1 ∨ i = 2 ∨ i = 3 ∨ i = 4 ∨ i = 5 ∨ i = 6 ∨ i = 7 ∨ i = 8 ∨ i = 9 ∨ i = 10 ∨ i = 11) with rfl | rfl | rfl | rfl | rfl | rfl | rfl | rfl | rfl | rfl | rfl | rfl <;> (simp at hi; subst hi; exact ⟨rfl, fun μ => .sym .u8 (by rw [hE]; simp)⟩))
          (fun μ hμ => .cons (.sym .u8 (by rw [hE]; simp)) (.cons (.slx (fun h0 => hμ h0) (by simp) (by omega)) (.cons (.bool true) .nil))) k0_L12_t
    · cases a2
      · obtain ⟨E, hE⟩ := envOf [(0, 255), (0, 255), (0, 255), (0, 255), (0, 255), (0, 255), (0, 255), (0, 255), (0, 255), (0, 255), (0, 255), (0, 255), (0, 255), (0, 255)] [] (addOf 70 [(0, 255), (0, 255), (0, 255), (0, 255), (0, 255), (0, 255), (0, 255), (0, 255), (0, 255), (0, 255), (0, 255), (0, 255), (0, 255), (0, 255)] []) [a0, z1.getD 0 0, z1.getD 1 0, z1.getD 2 0, z1.getD 3 0, z1.getD 4 0, z1.getD 5 0, z1.getD 6 0, z1.getD 7 0, z1.getD 8 0, z1.getD 9 0, z1.getD 10 0, z1.getD 11 0, z1.getD 12 0] (.cons (⟨by omega, by omega⟩) (.cons (hz1 0 (by omega)) (.cons (hz1 1 (by omega)) (.cons (hz1 2 (by omega)) (.cons (hz1 3 (by omega)) (.cons (hz1 4 (by omega)) (.cons (hz1 5 (by omega)) (.cons (hz1 6 (by omega)) (.cons (hz1 7 (by omega)) (.cons (hz1 8 (by omega)) (.cons (hz1 9 (by omega)) (.cons (hz1 10 (by omega)) (.cons (hz1 11 (by omega)) (.cons (hz1 12 (by omega)) .nil)))))))))))))) (by intro e he; simp at he)
        letI : Facts := ⟨[(0, 255), (0, 255), (0, 255), (0, 255), (0, 255), (0, 255), (0, 255), (0, 255), (0, 255), (0, 255), (0, 255), (0, 255), (0, 255), (0, 255)], [], (addOf 70 [(0, 255), (0, 255), (0, 255), (0, 255), (0, 255), (0, 255), (0, 255), (0, 255), (0, 255), (0, 255), (0, 255), (0, 255), (0, 255), (0, 255)] [])⟩
        letI : Env := E
        exact slice_calls addOK hmix (shaped_size hs) (G := 0) (by kernel_rfl) (enter_of Try.func9 (by kernel_rfl) (by kernel_rfl)) (n := 13) (by omega) (by omega) hc1 (cells := [(.sym .u8 0 [(1, 1)]), (.sym .u8 0 [(2, 1)]), (.sym .u8 0 [(3, 1)]), (.sym .u8 0 [(4, 1)]), (.sym .u8 0 [(5, 1)]), (.sym .u8 0 [(6, 1)]), (.sym .u8 0 [(7, 1)]), (.sym .u8 0 [(8, 1)]), (.sym .u8 0 [(9, 1)]), (.sym .u8 0 [(10, 1)]), (.sym .u8 0 [(11, 1)]), (.sym .u8 0 [(12, 1)]), (.sym .u8 0 [(13, 1)])]) rfl
          (by
            intro i v hi
            have hlt : i < 13 := by simpa using (List.getElem?_eq_some_iff.1 hi).1
            rcases (by omega : i = 0 ∨ i = 1 ∨ i = 2 ∨ i = 3 ∨ i = 4 ∨ i = 5 ∨ i = 6 ∨ i = 7 ∨ i = 8 ∨ i = 9 ∨ i = 10 ∨ i = 11 ∨ i = 12) with rfl | rfl | rfl | rfl | rfl | rfl | rfl | rfl | rfl | rfl | rfl | rfl | rfl <;> (simp at hi; subst hi; exact ⟨rfl, fun μ => .sym .u8 (by rw [hE]; simp)⟩))
          (fun μ hμ => .cons (.sym .u8 (by rw [hE]; simp)) (.cons (.slx (fun h0 => hμ h0) (by simp) (by omega)) (.cons (.bool false) .nil))) k0_L13_f
      · obtain ⟨E, hE⟩ := envOf [(0, 255), (0, 255), (0, 255), (0, 255), (0, 255), (0, 255), (0, 255), (0, 255), (0, 255), (0, 255), (0, 255), (0, 255), (0, 255), (0, 255)] [] (addOf 70 [(0, 255), (0, 255), (0, 255), (0, 255), (0, 255), (0, 255), (0, 255), (0, 255), (0, 255), (0, 255), (0, 255), (0, 255), (0, 255), (0, 255)] []) [a0, z1.getD 0 0, z1.getD 1 0, z1.getD 2 0, z1.getD 3 0, z1.getD 4 0, z1.getD 5 0, z1.getD 6 0, z1.getD 7 0, z1.getD 8 0, z1.getD 9 0, z1.getD 10 0, z1.getD 11 0, z1.getD 12 0] (.cons (⟨by omega, by omega⟩) (.cons (hz1 0 (by omega)) (.cons (hz1 1 (by omega)) (.cons (hz1 2 (by omega)) (.cons (hz1 3 (by omega)) (.cons (hz1 4 (by omega)) (.cons (hz1 5 (by omega)) (.cons (hz1 6 (by omega)) (.cons (hz1 7 (by omega)) (.cons (hz1 8 (by omega)) (.cons (hz1 9 (by omega)) (.cons (hz1 10 (by omega)) (.cons (hz1 11 (by omega)) (.cons (hz1 12 (by omega)) .nil)))))))))))))) (by intro e he; simp at he)
        letI : Facts := ⟨[(0, 255), (0, 255), (0, 255), (0, 255), (0, 255), (0, 255), (0, 255), (0, 255), (0, 255), (0, 255), (0, 255), (0, 255), (0, 255), (0, 255)], [], (addOf 70 [(0, 255), (0, 255), (0, 255), (0, 255), (0, 255), (0, 255), (0, 255), (0, 255), (0, 255), (0, 255), (0, 255), (0, 255), (0, 255), (0, 255)] [])⟩
        letI : Env := E
        exact slice_calls addOK hmix (shaped_size hs) (G := 0) (by kernel_rfl) (enter_of Try.func9 (by kernel_rfl) (by kernel_rfl)) (n := 13) (by omega) (by omega) hc1 (cells := [(.sym .u8 0 [(1, 1)]), (.sym .u8 0 [(2, 1)]), (.sym .u8 0 [(3, 1)]), (.sym .u8 0 [(4, 1)]), (.sym .u8 0 [(5, 1)]), (.sym .u8 0 [(6, 1)]), (.sym .u8 0 [(7, 1)]), (.sym .u8 0 [(8, 1)]), (.sym .u8 0 [(9, 1)]), (.sym .u8 0 [(10, 1)]), (.sym .u8 0 [(11, 1)]), (.sym .u8 0 [(12, 1)]), (.sym .u8 0 [(13, 1)])]) rfl
          (by
            intro i v hi
            have hlt : i < 13 := by simpa using (List.getElem?_eq_some_iff.1 hi).1
            rcases (by omega : i = 0 ∨ i = 1 ∨ i = 2 ∨ i = 3 ∨ i = 4 ∨ i = 5 ∨ i = 6 ∨ i = 7 ∨ i = 8 ∨ i = 9 ∨ i = 10 ∨ i = 11 ∨ i = 12) with rfl | rfl | rfl | rfl | rfl | rfl | rfl | rfl | rfl | rfl | rfl | rfl | rfl <;> (simp at hi; subst hi; exact ⟨rfl, fun μ => .sym .u8 (by rw [hE]; simp)⟩))
          (fun μ hμ => .cons (.sym .u8 (by rw [hE]; simp)) (.cons (.slx (fun h0 => hμ h0) (by simp) (by omega)) (.cons (.bool true) .nil))) k0_L13_t
    · cases a2
      · obtain ⟨E, hE⟩ := envOf [(0, 255), (0, 255), (0, 255), (0, 255), (0, 255), (0, 255), (0, 255), (0, 255), (0, 255), (0, 255), (0, 255), (0, 255), (0, 255), (0, 255), (0, 255)] [] (addOf 70 [(0, 255), (0, 255), (0, 255), (0, 255), (0, 255), (0, 255), (0, 255), (0, 255), (0, 255), (0, 255), (0, 255), (0, 255), (0, 255), (0, 255), (0, 255)] []) [a0, z1.getD 0 0, z1.getD 1 0, z1.getD 2 0, z1.getD 3 0, z1.getD 4 0, z1.getD 5 0, z1.getD 6 0, z1.getD 7 0, z1.getD 8 0, z1.getD 9 0, z1.getD 10 0, z1.getD 11 0, z1.getD 12 0, z1.getD 13 0] (.cons (⟨by omega, by omega⟩) (.cons (hz1 0 (by omega)) (.cons (hz1 1 (by omega)) (.cons (hz1 2 (by omega)) (.cons (hz1 3 (by omega)) (.cons (hz1 4 (by omega)) (.cons (hz1 5 (by omega)) (.cons (hz1 6 (by omega)) (.cons (hz1 7 (by omega)) (.cons (hz1 8 (by omega)) (.cons (hz1 9 (by omega)) (.cons (hz1 10 (by omega)) (.cons (hz1 11 (by omega)) (.cons (hz1 12 (by omega)) (.cons (hz1 13 (by omega)) .nil))))))))))))))) (by intro e he; simp at he)
        letI : Facts := ⟨[(0, 255), (0, 255), (0, 255), (0, 255), (0, 255), (0, 255), (0, 255), (0, 255), (0, 255), (0, 255), (0, 255), (0, 255), (0, 255), (0, 255), (0, 255)], [], (addOf 70 [(0, 255), (0, 255), (0, 255), (0, 255), (0, 255), (0, 255), (0, 255), (0, 255), (0, 255), (0, 255), (0, 255), (0, 255), (0, 255), (0, 255), (0, 255)] [])⟩
        letI : Env := E
        exact slice_calls addOK hmix (shaped_size hs) (G := 0) (by kernel_rfl) (enter_of Try.func9 (by kernel_rfl) (by kernel_rfl)) (n := 14) (by omega) (by omega) hc1 (cells := [(.sym .u8 0 [(1, 1)]), (.sym .u8 0 [(2, 1)]), (.sym .u8 0 [(3, 1)]), (.sym .u8 0 [(4, 1)]), (.sym .u8 0 [(5, 1)]), (.sym .u8 0 [(6, 1)]), (.sym .u8 0 [(7, 1)]), (.sym .u8 0 [(8, 1)]), (.sym .u8 0 [(9, 1)]), (.sym .u8 0 [(10, 1)]), (.sym .u8 0 [(11, 1)]), (.sym .u8 0 [(12, 1)]), (.sym .u8 0 [(13, 1)]), (.sym .u8 0 [(14, 1)])]) rfl
          (by
            intro i v hi
            have hlt : i < 14 := by simpa using (List.getElem?_eq_some_iff.1 hi).1
            rcases (by omega : i = 0 ∨ i = 1 ∨ i = 2 ∨ i = 3 ∨ i = 4 ∨ i = 5 ∨ i = 6 ∨ i = 7 ∨ i = 8 ∨ i = 9 ∨ i = 10 ∨ i = 11 ∨ i = 12 ∨ i = 13) with rfl | rfl | rfl | rfl | rfl | rfl | rfl | rfl | rfl | rfl | rfl | rfl | rfl | rfl <;> (simp at hi; subst hi; exact ⟨rfl, fun μ => .sym .u8 (by rw [hE]; simp)⟩))
          (fun μ hμ => .cons (.sym .u8 (by rw [hE]; simp)) (.cons (.slx (fun h0 => hμ h0) (by simp) (by omega)) (.cons (.bool false) .nil))) k0_L14_f
      · obtain ⟨E, hE⟩ := envOf [(0, 255), (0, 255), (0, 255), (0, 255), (0, 255), (0, 255), (0, 255), (0, 255), (0, 255), (0, 255), (0, 255), (0, 255), (0, 255), (0, 255), (0, 255)] [] (addOf 70 [(0, 255), (0, 255), (0, 255), (0, 255), (0, 255), (0, 255), (0, 255), (0, 255), (0, 255), (0, 255), (0, 255), (0, 255), (0, 255), (0, 255), (0, 255)] []) [a0, z1.getD 0 0, z1.getD 1 0, z1.getD 2 0, z1.getD 3 0, z1.getD 4 0, z1.getD 5 0, z1.getD 6 0, z1.getD 7 0, z1.getD 8 0, z1.getD 9 0, z1.getD 10 0, z1.getD 11 0, z1.getD 12 0, z1.getD 13 0] (.cons (⟨by omega, by omega⟩) (.cons (hz1 0 (by omega)) (.cons (hz1 1 (by omega)) (.cons (hz1 2 (by omega)) (.cons (hz1 3 (by omega)) (.cons (hz1 4 (by omega)) (.cons (hz1 5 (by omega)) (.cons (hz1 6 (by omega)) (.cons (hz1 7 (by omega)) (.cons (hz1 8 (by omega)) (.cons (hz1 9 (by omega)) (.cons (hz1 10 (by omega)) (.cons (hz1 11 (by omega)) (.cons (hz1 12 (by omega)) (.cons (hz1 13 (by omega)) .nil))))))))))))))) (by intro e he; simp at he)
        letI : Facts := ⟨[(0, 255), (0, 255), (0, 255), (0, 255), (0, 255), (0, 255), (0, 255), (0, 255), (0, 255), (0, 255), (0, 255), (0, 255), (0, 255), (0, 255), (0, 255)], [], (addOf 70 [(0, 255), (0, 255), (0, 255), (0, 255), (0, 255), (0, 255), (0, 255), (0, 255), (0, 255), (0, 255), (0, 255), (0, 255), (0, 255), (0, 255), (0, 255)] [])⟩
        letI : Env := E
        exact slice_calls addOK hmix (shaped_size hs) (G := 0) (by kernel_rfl) (enter_of Try.func9 (by kernel_rfl) (by kernel_rfl)) (n := 14) (by omega) (by omega) hc1 (cells := [(.sym .u8 0 [(1, 1)]), (.sym .u8 0 [(2, 1)]), (.sym .u8 0 [(3, 1)]), (.sym .u8 0 [(4, 1)]), (.sym .u8 0 [(5, 1)]), (.sym .u8 0 [(6, 1)]), (.sym .u8 0 [(7, 1)]), (.sym .u8 0 [(8, 1)]), (.sym .u8 0 [(9, 1)]), (.sym .u8 0 [(10, 1)]), (.sym .u8 0 [(11, 1)]), (.sym .u8 0 [(12, 1)]), (.sym .u8 0 [(13, 1)]), (.sym .u8 0 [(14, 1)])]) rfl
          (by
            intro i v hi
            have hlt : i < 14 := by simpa using (List.getElem?_eq_some_iff.1 hi).1
            rcases (by omega : i = 0 ∨ i = 1 ∨ i = 2 ∨ i = 3 ∨ i = 4 ∨ i = 5 ∨ i = 6 ∨ i = 7 ∨ i = 8 ∨ i = 9 ∨ i = 10 ∨ i = 11 ∨ i = 12 ∨ i = 13) with rfl | rfl | rfl | rfl | rfl | rfl | rfl | rfl | rfl | rfl | rfl | rfl | rfl | rfl <;> (simp at hi; subst hi; exact ⟨rfl, fun μ => .sym .u8 (by rw [hE]; simp)⟩))
          (fun μ hμ => .cons (.sym .u8 (by rw [hE]; simp)) (.cons (.slx (fun h0 => hμ h0) (by simp) (by omega)) (.cons (.bool true) .nil))) k0_L14_t
    · cases a2
      · obtain ⟨E, hE⟩ := envOf [(0, 255), (0, 255), (0, 255), (0, 255), (0, 255), (0, 255), (0, 255), (0, 255), (0, 255), (0, 255), (0, 255), (0, 255), (0, 255), (0, 255), (0, 255), (0, 255)] [] (addOf 70 [(0, 255), (0, 255), (0, 255), (0, 255), (0, 255), (0, 255), (0, 255), (0, 255), (0, 255), (0, 255), (0, 255), (0, 255), (0, 255), (0, 255), (0, 255), (0, 255)] []) [a0, z1.getD 0 0, z1.getD 1 0, z1.getD 2 0, z1.getD 3 0, z1.getD 4 0, z1.getD 5 0, z1.getD 6 0, z1.getD 7 0, z1.getD 8 0, z1.getD 9 0, z1.getD 10 0, z1.getD 11 0, z1.getD 12 0, z1.getD 13 0, z1.getD 14 0] (.cons (⟨by omega, by omega⟩) (.cons (hz1 0 (by omega)) (.cons (hz1 1 (by omega)) (.cons (hz1 2 (by omega)) (.cons (hz1 3 (by omega)) (.cons (hz1 4 (by omega)) (.cons (hz1 5 (by omega)) (.cons (hz1 6 (by omega)) (.cons (hz1 7 (by omega)) (.cons (hz1 8 (by omega)) (.cons (hz1 9 (by omega)) (.cons (hz1 10 (by omega)) (.cons (hz1 11 (by omega)) (.cons (hz1 12 (by omega)) (.cons (hz1 13 (by omega)) (.cons (hz1 14 (by omega)) .nil)))))))))))))))) (by intro e he; simp at he)
        letI : Facts := ⟨[(0, 255), (0, 255), (0, 255), (0, 255), (0, 255), (0, 255), (0, 255), (0, 255), (0, 255), (0, 255), (0, 255), (0, 255), (0, 255), (0, 255), (0, 255), (0, 255)], [], (addOf 70 [(0, 255), (0, 255), (0, 255), (0, 255), (0, 255), (0, 255), (0, 255), (0, 255), (0, 255), (0, 255), (0, 255), (0, 255), (0, 255), (0, 255), (0, 255), (0, 255)] [])⟩
        letI : Env := E
        exact slice_calls addOK hmix (shaped_size hs) (G := 0) (by kernel_rfl) (enter_of Try.func9 (by kernel_rfl) (by kernel_rfl)) (n := 15) (by omega) (by omega) hc1 (cells := [(.sym .u8 0 [(1, 1)]), (.sym .u8 0 [(2, 1)]), (.sym .u8 0 [(3, 1)]), (.sym .u8 0 [(4, 1)]), (.sym .u8 0 [(5, 1)]), (.sym .u8 0 [(6, 1)]), (.sym .u8 0 [(7, 1)]), (.sym .u8 0 [(8, 1)]), (.sym .u8 0 [(9, 1)]), (.sym .u8 0 [(10, 1)]), (.sym .u8 0 [(11, 1)]), (.sym .u8 0 [(12, 1)]), (.sym .u8 0 [(13, 1)]), (.sym .u8 0 [(14, 1)]), (.sym .u8 0 [(15, 1)])]) rfl
          (by
            intro i v hi
            have hlt : i < 15 := by simpa using (List.getElem?_eq_some_iff.1 hi).1
            rcases (by omega : i = 0 ∨ i = 1 ∨ i = 2 ∨ i = 3 ∨ i = 4 ∨ i = 5 ∨ i = 6 ∨ i = 7 ∨ i = 8 ∨ i = 9 ∨ i = 10 ∨ i = 11 ∨ i = 12 ∨ i = 13 ∨ i = 14) with rfl | rfl | rfl | rfl | rfl | rfl | rfl | rfl | rfl | rfl | rfl | rfl | rfl | rfl | rfl <;> (simp at hi; subst hi; exact ⟨rfl, fun μ => .sym .u8 (by rw [hE]; simp)⟩))
          (fun μ hμ => .cons (.sym .u8 (by rw [hE]; simp)) (.cons (.slx (fun h0 => hμ h0) (by simp) (by omega)) (.cons (.bool false) .nil))) k0_L15_f
      · obtain ⟨E, hE⟩ := envOf [(0, 255), (0, 255), (0, 255), (0, 255), (0, 255), (0, 255), (0, 255), (0, 255), (0, 255), (0, 255), (0, 255), (0, 255), (0, 255), (0, 255), (0, 255), (0, 255)] [] (addOf 70 [(0, 255), (0, 255), (0, 255), (0, 255), (0, 255), (0, 255), (0, 255), (0, 255), (0, 255), (0, 255), (0, 255), (0, 255), (0, 255), (0, 255), (0, 255), (0, 255)] []) [a0, z1.getD 0 0, z1.getD 1 0, z1.getD 2 0, z1.getD 3 0, z1.getD 4 0, z1.getD 5 0, z1.getD 6 0, z1.getD 7 0, z1.getD 8 0, z1.getD 9 0, z1.getD 10 0, z1.getD 11 0, z1.getD 12 0, z1.getD 13 0, z1.getD 14 0] (.cons (⟨by omega, by omega⟩) (.cons (hz1 0 (by omega)) (.cons (hz1 1 (by omega)) (.cons (hz1 2 (by omega)) (.cons (hz1 3 (by omega)) (.cons (hz1 4 (by omega)) (.cons (hz1 5 (by omega)) (.cons (hz1 6 (by omega)) (.cons (hz1 7 (by omega)) (.cons (hz1 8 (by omega)) (.cons (hz1 9 (by omega)) (.cons (hz1 10 (by omega)) (.cons (hz1 11 (by omega)) (.cons (hz1 12 (by omega)) (.cons (hz1 13 (by omega)) (.cons (hz1 14 (by omega)) .nil)))))))))))))))) (by intro e he; simp at he)
        letI : Facts := ⟨[(0, 255), (0, 255), (0, 255), (0, 255), (0, 255), (0, 255), (0, 255), (0, 255), (0, 255), (0, 255), (0, 255), (0, 255), (0, 255), (0, 255), (0, 255), (0, 255)], [], (addOf 70 [(0, 255), (0, 255), (0, 255), (0, 255), (0, 255), (0, 255), (0, 255), (0, 255), (0, 255), (0, 255), (0, 255), (0, 255), (0, 255), (0, 255), (0, 255), (0, 255)] [])⟩
        letI : Env := E
        exact slice_calls addOK hmix (shaped_size hs) (G := 0) (by kernel_rfl) (enter_of Try.func9 (by kernel_rfl) (by kernel_rfl)) (n := 15) (by omega) (by omega) hc1 (cells := [(.sym .u8 0 [(1, 1)]), (.sym .u8 0 [(2, 1)]), (.sym .u8 0 [(3, 1)]), (.sym .u8 0 [(4, 1)]), (.sym .u8 0 [(5, 1)]), (.sym .u8 0 [(6, 1)]), (.sym .u8 0 [(7, 1)]), (.sym .u8 0 [(8, 1)]), (.sym .u8 0 [(9, 1)]), (.sym .u8 0 [(10, 1)]), (.sym .u8 0 [(11, 1)]), (.sym .u8 0 [(12, 1)]), (.sym .u8 0 [(13, 1)]), (.sym .u8 0 [(14, 1)]), (.sym .u8 0 [(15, 1)])]) rfl
          (by
            intro i v hi
            have hlt : i < 15 := by simpa using (List.getElem?_eq_some_iff.1 hi).1
            rcases (by omega : i = 0 ∨ i = 1 ∨ i = 2 ∨ i = 3 ∨ i = 4 ∨ i = 5 ∨ i = 6 ∨ i = 7 ∨ i = 8 ∨ i = 9 ∨ i = 10 ∨ i = 11 ∨ i = 12 ∨ i = 13 ∨ i = 14) with rfl | rfl | rfl | rfl | rfl | rfl | rfl | rfl | rfl | rfl | rfl | rfl | rfl | rfl | rfl <;> (simp at hi; subst hi; exact ⟨rfl, fun μ => .sym .u8 (by rw [hE]; simp)⟩))
          (fun μ hμ => .cons (.sym .u8 (by rw [hE]; simp)) (.cons (.slx (fun h0 => hμ h0) (by simp) (by omega)) (.cons (.bool true) .nil))) k0_L15_t
    · cases a2
      · obtain ⟨E, hE⟩ := envOf [(0, 255), (0, 255), (0, 255), (0, 255), (0, 255), (0, 255), (0, 255), (0, 255), (0, 255), (0, 255), (0, 255), (0, 255), (0, 255), (0, 255), (0, 255), (0, 255), (0, 255)] [] (addOf 70 [(0, 255), (0, 255), (0, 255), (0, 255), (0, 255), (0, 255), (0, 255), (0, 255), (0, 255), (0, 255), (0, 255), (0, 255), (0, 255), (0, 255), (0, 255), (0, 255), (0, 255)] []) [a0, z1.getD 0 0, z1.getD 1 0, z1.getD 2 0, z1.getD 3 0, z1.getD 4 0, z1.getD 5 0, z1.getD 6 0, z1.getD 7 0, z1.getD 8 0, z1.getD 9 0, z1.getD 10 0, z1.getD 11 0, z1.getD 12 0, z1.getD 13 0, z1.getD 14 0, z1.getD 15 0] (.cons (⟨by omega, by omega⟩) (.cons (hz1 0 (by omega)) (.cons (hz1 1 (by omega)) (.cons (hz1 2 (by omega)) (.cons (hz1 3 (by omega)) (.cons (hz1 4 (by omega)) (.cons (hz1 5 (by omega)) (.cons (hz1 6 (by omega)) (.cons (hz1 7 (by omega)) (.cons (hz1 8 (by omega)) (.cons (hz1 9 (by omega)) (.cons (hz1 10 (by omega)) (.cons (hz1 11 (by omega)) (.cons (hz1 12 (by omega)) (.cons (hz1 13 (by omega)) (.cons (hz1 14 (by omega)) (.cons (hz1 15 (by omega)) .nil))))))))))))))))) (by intro e he; simp at he)
        letI : Facts := ⟨[(0, 255), (0, 255), (0, 255), (0, 255), (0, 255), (0, 255), (0, 255), (0, 255), (0, 255), (0, 255), (0, 255), (0, 255), (0, 255), (0, 255), (0, 255), (0, 255), (0, 255)], [], (addOf 70 [(0, 255), (0, 255), (0, 255), (0, 255), (0, 255), (0, 255), (0, 255), (0, 255), (0, 255), (0, 255), (0, 255), (0, 255), (0, 255), (0, 255), (0, 255), (0, 255), (0, 255)] [])⟩
        letI : Env := E
        exact slice_calls addOK hmix (shaped_size hs) (G := 0) (by kernel_rfl) (enter_of Try.func9 (by kernel_rfl) (by kernel_rfl)) (n := 16) (by omega) (by omega) hc1 (cells := [(.sym .u8 0 [(1, 1)]), (.sym .u8 0 [(2, 1)]), (.sym .u8 0 [(3, 1)]), (.sym .u8 0 [(4, 1)]), (.sym .u8 0 [(5, 1)]), (.sym .u8 0 [(6, 1)]), (.sym .u8 0 [(7, 1)]), (.sym .u8 0 [(8, 1)]), (.sym .u8 0 [(9, 1)]), (.sym .u8 0 [(10, 1)]), (.sym .u8 0 [(11, 1)]), (.sym .u8 0 [(12, 1)]), (.sym .u8 0 [(13, 1)]), (.sym .u8 0 [(14, 1)]), (.sym .u8 0 [(15, 1)]), (.sym .u8 0 [(16, 1)])]) rfl
          (by
            intro i v hi
            have hlt : i < 16 := by simpa using (List.getElem?_eq_some_iff.1 hi).1
            rcases (by omega : i = 0 ∨ i = 1 ∨ i = 2 ∨ i = 3 ∨ i = 4 ∨ i = 5 ∨ i = 6 ∨ i = 7 ∨ i = 8 ∨ i = 9 ∨ i = 10 ∨ i = 11 ∨ i = 12 ∨ i = 13 ∨ i = 14 ∨ i = 15) with rfl | rfl | rfl | rfl | rfl | rfl | rfl | rfl | rfl | rfl | rfl | rfl | rfl | rfl | rfl | rfl <;> (simp at hi; subst hi; exact ⟨rfl, fun μ => .sym .u8 (by rw [hE]; simp)⟩))
          (fun μ hμ => .cons (.sym .u8 (by rw [hE]; simp)) (.cons (.slx (fun h0 => hμ h0) (by simp) (by omega)) (.cons (.bool false) .nil))) k0_L16_f
      · obtain ⟨E, hE⟩ := envOf [(0, 255), (0, 255), (0, 255), (0, 255), (0, 255), (0, 255), (0, 255), (0, 255), (0, 255), (0, 255), (0, 255), (0, 255), (0, 255), (0, 255), (0, 255), (0, 255), (0, 255)] [] (addOf 70 [(0, 255), (0, 255), (0, 255), (0, 255), (0, 255), (0, 255), (0, 255), (0, 255), (0, 255), (0, 255), (0, 255), (0, 255), (0, 255), (0, 255), (0, 255), (0, 255), (0, 255)] []) [a0, z1.getD 0 0, z1.getD 1 0, z1.getD 2 0, z1.getD 3 0, z1.getD 4 0, z1.getD 5 0, z1.getD 6 0, z1.getD 7 0, z1.getD 8 0, z1.getD 9 0, z1.getD 10 0, z1.getD 11 0, z1.getD 12 0, z1.getD 13 0, z1.getD 14 0, z1.getD 15 0] (.cons (⟨by omega, by omega⟩) (.cons (hz1 0 (by omega)) (.cons (hz1 1 (by omega)) (.cons (hz1 2 (by omega)) (.cons (hz1 3 (by omega)) (.cons (hz1 4 (by omega)) (.cons (hz1 5 (by omega)) (.cons (hz1 6 (by omega)) (.cons (hz1 7 (by omega)) (.cons (hz1 8 (by omega)) (.cons (hz1 9 (by omega)) (.cons (hz1 10 (by omega)) (.cons (hz1 11 (by omega)) (.cons (hz1 12 (by omega)) (.cons (hz1 13 (by omega)) (.cons (hz1 14 (by omega)) (.cons (hz1 15 (by omega)) .nil))))))))))))))))) (by intro e he; simp at he)
        letI : Facts := ⟨[(0, 255), (0, 255), (0, 255), (0, 255), (0, 255), (0, 255), (0, 255), (0, 255), (0, 255), (0, 255), (0, 255), (0, 255), (0, 255), (0, 255), (0, 255), (0, 255), (0, 255)], [], (addOf 70 [(0, 255), (0, 255), (0, 255), (0, 255), (0, 255), (0, 255), (0, 255), (0, 255), (0, 255), (0, 255), (0, 255), (0, 255), (0, 255), (0, 255), (0, 255), (0, 255), (0, 255)] [])⟩
        letI : Env := E
        exact slice_calls addOK hmix (shaped_size hs) (G := 0) (by kernel_rfl) (enter_of Try.func9 (by kernel_rfl) (by kernel_rfl)) (n := 16) (by omega) (by omega) hc1 (cells := [(.sym .u8 0 [(1, 1)]), (.sym .u8 0 [(2, 1)]), (.sym .u8 0 [(3, 1)]), (.sym .u8 0 [(4, 1)]), (.sym .u8 0 [(5, 1)]), (.sym .u8 0 [(6, 1)]), (.sym .u8 0 [(7, 1)]), (.sym .u8 0 [(8, 1)]), (.sym .u8 0 [(9, 1)]), (.sym .u8 0 [(10, 1)]), (.sym .u8 0 [(11, 1)]), (.sym .u8 0 [(12, 1)]), (.sym .u8 0 [(13, 1)]), (.sym .u8 0 [(14, 1)]), (.sym .u8 0 [(15, 1)]), (.sym .u8 0 [(16, 1)])]) rfl
          (by
            intro i v hi
            have hlt : i < 16 := by simpa using (List.getElem?_eq_some_iff.1 hi).1
            rcases (by omega : i = 0 ∨ i = 1 ∨ i = 2 ∨ i = 3 ∨ i = 4 ∨ i = 5 ∨ i = 6 ∨ i = 7 ∨ i = 8 ∨ i = 9 ∨ i = 10 ∨ i = 11 ∨ i = 12 ∨ i = 13 ∨ i = 14 ∨ i = 15) with rfl | rfl | rfl | rfl | rfl | rfl | rfl | rfl | rfl | rfl | rfl | rfl | rfl | rfl | rfl | rfl <;> (simp at hi; subst hi; exact ⟨rfl, fun μ => .sym .u8 (by rw [hE]; simp)⟩))
          (fun μ hμ => .cons (.sym .u8 (by rw [hE]; simp)) (.cons (.slx (fun h0 => hμ h0) (by simp) (by omega)) (.cons (.bool true) .nil))) k0_L16_t
    · cases a2
      · obtain ⟨E, hE⟩ := envOf [(0, 255), (0, 255), (0, 255), (0, 255), (0, 255), (0, 255), (0, 255), (0, 255), (0, 255), (0, 255), (0, 255), (0, 255), (0, 255), (0, 255), (0, 255), (0, 255), (0, 255), (0, 255)] [] (addOf 70 [(0, 255), (0, 255), (0, 255), (0, 255), (0, 255), (0, 255), (0, 255), (0, 255), (0, 255), (0, 255), (0, 255), (0, 255), (0, 255), (0, 255), (0, 255), (0, 255), (0, 255), (0, 255)] []) [a0, z1.getD 0 0, z1.getD 1 0, z1.getD 2 0, z1.getD 3 0, z1.getD 4 0, z1.getD 5 0, z1.getD 6 0, z1.getD 7 0, z1.getD 8 0, z1.getD 9 0, z1.getD 10 0, z1.getD 11 0, z1.getD 12 0, z1.getD 13 0, z1.getD 14 0, z1.getD 15 0, z1.getD 16 0] (.cons (⟨by omega, by omega⟩) (.cons (hz1 0 (by omega)) (.cons (hz1 1 (by omega)) (.cons (hz1 2 (by omega)) (.cons (hz1 3 (by omega)) (.cons (hz1 4 (by omega)) (.cons (hz1 5 (by omega)) (.cons (hz1 6 (by omega)) (.cons (hz1 7 (by omega)) (.cons (hz1 8 (by omega)) (.cons (hz1 9 (by omega)) (.cons (hz1 10 (by omega)) (.cons (hz1 11 (by omega)) (.cons (hz1 12 (by omega)) (.cons (hz1 13 (by omega)) (.cons (hz1 14 (by omega)) (.cons (hz1 15 (by omega)) (.cons (hz1 16 (by omega)) .nil)))))))))))))))))) (by intro e he; simp at he)
        letI : Facts := ⟨[(0, 255), (0, 255), (0, 255), (0, 255), (0, 255), (0, 255), (0, 255), (0, 255), (0, 255), (0, 255), (0, 255), (0, 255), (0, 255), (0, 255), (0, 255), (0, 255), (0, 255), (0, 255)], [], (addOf 70 [(0, 255), (0, 255), (0, 255), (0, 255), (0, 255), (0, 255), (0, 255), (0, 255), (0, 255), (0, 255), (0, 255), (0, 255), (0, 255), (0, 255), (0, 255), (0, 255), (0, 255), (0, 255)] [])⟩
        letI : Env := E
        exact slice_calls addOK hmix (shaped_size hs) (G := 0) (by kernel_rfl) (enter_of Try.func9 (by kernel_rfl) (by kernel_rfl)) (n := 17) (by omega) (by omega) hc1 (cells := [(.sym .u8 0 [(1, 1)]), (.sym .u8 0 [(2, 1)]), (.sym .u8 0 [(3, 1)]), (.sym .u8 0 [(4, 1)]), (.sym .u8 0 [(5, 1)]), (.sym .u8 0 [(6, 1)]), (.sym .u8 0 [(7, 1)]), (.sym .u8 0 [(8, 1)]), (.sym .u8 0 [(9, 1)]), (.sym .u8 0 [(10, 1)]), (.sym .u8 0 [(11, 1)]), (.sym .u8 0 [(12, 1)]), (.sym .u8 0 [(13, 1)]), (.sym .u8 0 [(14, 1)]), (.sym .u8 0 [(15, 1)]), (.sym .u8 0 [(16, 1)]), (.sym .u8 0 [(17, 1)])]) rfl
          (by
            intro i v hi
            have hlt : i < 17 := by simpa using (List.getElem?_eq_some_iff.1 hi).1
            rcases (by omega : i = 0 ∨ i = 1 ∨ i = 2 ∨ i = 3 ∨ i = 4 ∨ i = 5 ∨ i = 6 ∨ i = 7 ∨ i = 8 ∨ i = 9 ∨ i = 10 ∨ i = 11 ∨ i = 12 ∨ i = 13 ∨ i = 14 ∨ i = 15 ∨ i = 16) with rfl | rfl | rfl | rfl | rfl | rfl | rfl | rfl | rfl | rfl | rfl | rfl | rfl | rfl | rfl | rfl | rfl <;> (simp at hi; subst hi; exact ⟨rfl, fun μ => .sym .u8 (by rw [hE]; simp)⟩))
          (fun μ hμ => .cons (.sym .u8 (by rw [hE]; simp)) (.cons (.slx (fun h0 => hμ h0) (by simp) (by omega)) (.cons (.bool false) .nil))) k0_L17_f
      · obtain ⟨E, hE⟩ := envOf [(0, 255), (0, 255), (0, 255), (0, 255), (0, 255), (0, 255), (0, 255), (0, 255), (0, 255), (0, 255), (0, 255), (0, 255), (0, 255), (0, 255), (0, 255), (0, 255), (0, 255), (0, 255)] [] (addOf 70 [(0, 255), (0, 255), (0, 255), (0, 255), (0, 255), (0, 255), (0, 255), (0, 255), (0, 255), (0, 255), (0, 255), (0, 255), (0, 255), (0, 255), (0, 255), (0, 255), (0, 255), (0, 255)] []) [a0, z1.getD 0 0, z1.getD 1 0, z1.getD 2 0, z1.getD 3 0, z1.getD 4 0, z1.getD 5 0, z1.getD 6 0, z1.getD 7 0, z1.getD 8 0, z1.getD 9 0, z1.getD 10 0, z1.getD 11 0, z1.getD 12 0, z1.getD 13 0, z1.getD 14 0, z1.getD 15 0, z1.getD 16 0] (.cons (⟨by omega, by omega⟩) (.cons (hz1 0 (by omega)) (.cons (hz1 1 (by omega)) (.cons (hz1 2 (by omega)) (.cons (hz1 3 (by omega)) (.cons (hz1 4 (by omega)) (.cons (hz1 5 (by omega)) (.cons (hz1 6 (by omega)) (.cons (hz1 7 (by omega)) (.cons (hz1 8 (by omega)) (.cons (hz1 9 (by omega)) (.cons (hz1 10 (by omega)) (.cons (hz1 11 (by omega)) (.cons (hz1 12 (by omega)) (.cons (hz1 13 (by omega)) (.cons (hz1 14 (by omega)) (.cons (hz1 15 (by omega)) (.cons (hz1 16 (by omega)) .nil)))))))))))))))))) (by intro e he; simp at he)
        letI : Facts := ⟨[(0, 255), (0, 255), (0, 255), (0, 255), (0, 255), (0, 255), (0, 255), (0, 255), (0, 255), (0, 255), (0, 255), (0, 255), (0, 255), (0, 255), (0, 255), (0, 255), (0, 255), (0, 255)], [], (addOf 70 [(0, 255), (0, 255), (0, 255), (0, 255), (0, 255), (0, 255), (0, 255), (0, 255), (0, 255), (0, 255), (0, 255), (0, 255), (0, 255), (0, 255), (0, 255), (0, 255), (0, 255), (0, 255)] [])⟩
        letI : Env := E
        exact slice_calls addOK hmix (shaped_size hs) (G := 0) (by kernel_rfl) (enter_of Try.func9 (by kernel_rfl) (by kernel_rfl)) (n := 17) (by omega) (by omega) hc1 (cells := [(.sym .u8 0 [(1, 1)]), (.sym .u8 0 [(2, 1)]), (.sym .u8 0 [(3, 1)]), (.sym .u8 0 [(4, 1)]), (.sym .u8 0 [(5, 1)]), (.sym .u8 0 [(6, 1)]), (.sym .u8 0 [(7, 1)]), (.sym .u8 0 [(8, 1)]), (.sym .u8 0 [(9, 1)]), (.sym .u8 0 [(10, 1)]), (.sym .u8 0 [(11, 1)]), (.sym .u8 0 [(12, 1)]), (.sym .u8 0 [(13, 1)]), (.sym .u8 0 [(14, 1)]), (.sym .u8 0 [(15, 1)]), (.sym .u8 0 [(16, 1)]), (.sym .u8 0 [(17, 1)])]) rfl
          (by
            intro i v hi
            have hlt : i < 17 := by simpa using (List.getElem?_eq_some_iff.1 hi).1
            rcases (by omega : i = 0 ∨ i = 1 ∨ i = 2 ∨ i = 3 ∨ i = 4 ∨ i = 5 ∨ i = 6 ∨ i = 7 ∨ i = 8 ∨ i = 9 ∨ i = 10 ∨ i = 11 ∨ i = 12 ∨ i = 13 ∨ i = 14 ∨ i = 15 ∨ i = 16) with rfl | rfl | rfl | rfl | rfl | rfl | rfl | rfl | rfl | rfl | rfl | rfl | rfl | rfl | rfl | rfl | rfl <;> (simp at hi; subst hi; exact ⟨rfl, fun μ => .sym .u8 (by rw [hE]; simp)⟩))
          (fun μ hμ => .cons (.sym .u8 (by rw [hE]; simp)) (.cons (.slx (fun h0 => hμ h0) (by simp) (by omega)) (.cons (.bool true) .nil))) k0_L17_t
    · cases a2
      · obtain ⟨E, hE⟩ := envOf [(0, 255), (0, 255), (0, 255), (0, 255), (0, 255), (0, 255), (0, 255), (0, 255), (0, 255), (0, 255), (0, 255), (0, 255), (0, 255), (0, 255), (0, 255), (0, 255), (0, 255), (0, 255), (0, 255)] [] (addOf 70 [(0, 255), (0, 255), (0, 255), (0, 255), (0, 255), (0, 255), (0, 255), (0, 255), (0, 255), (0, 255), (0, 255), (0, 255), (0, 255), (0, 255), (0, 255), (0, 255), (0, 255), (0, 255), (0, 255)] []) [a0, z1.getD 0 0, z1.getD 1 0, z1.getD 2 0, z1.getD 3 0, z1.getD 4 0, z1.getD 5 0, z1.getD 6 0, z1.getD 7 0, z1.getD 8 0, z1.getD 9 0, z1.getD 10 0, z1.getD 11 0, z1.getD 12 0, z1.getD 13 0, z1.getD 14 0, z1.getD 15 0, z1.getD 16 0, z1.getD 17 0] (.cons (⟨by omega, by omega⟩) (.cons (hz1 0 (by omega)) (.cons (hz1 1 (by omega)) (.cons (hz1 2 (by omega)) (.cons (hz1 3 (by omega)) (.cons (hz1 4 (by omega)) (.cons (hz1 5 (by omega)) (.cons (hz1 6 (by omega)) (.cons (hz1 7 (by omega)) (.cons (hz1 8 (by omega)) (.cons (hz1 9 (by omega)) (.cons (hz1 10 (by omega)) (.cons (hz1 11 (by omega)) (.cons (hz1 12 (by omega)) (.cons (hz1 13 (by omega)) (.cons (hz1 14 (by omega)) (.cons (hz1 15 (by omega)) (.cons (hz1 16 (by omega)) (.cons (hz1 17 (by omega)) .nil))))))))))))))))))) (by intro e he; simp at he)
        letI : Facts := ⟨[(0, 255), (0, 255), (0, 255), (0, 255), (0, 255), (0, 255), (0, 255), (0, 255), (0, 255), (0, 255), (0, 255), (0, 255), (0, 255), (0, 255), (0, 255), (0, 255), (0, 255), (0, 255), (0, 255)], [], (addOf 70 [(0, 255), (0, 255), (0, 255), (0, 255), (0, 255), (0, 255), (0, 255), (0, 255), (0, 255), (0, 255), (0, 255), (0, 255), (0, 255), (0, 255), (0, 255), (0, 255), (0, 255), (0, 255), (0, 255)] [])⟩
        letI : Env := E
        exact slice_calls addOK hmix (shaped_size hs) (G := 0) (by kernel_rfl) (enter_of Try.func9 (by kernel_rfl) (by kernel_rfl)) (n := 18) (by omega) (by omega) hc1 (cells := [(.sym .u8 0 [(1, 1)]), (.sym .u8 0 [(2, 1)]), (.sym .u8 0 [(3, 1)]), (.sym .u8 0 [(4, 1)]), (.sym .u8 0 [(5, 1)]), (.sym .u8 0 [(6, 1)]), (.sym .u8 0 [(7, 1)]), (.sym .u8 0 [(8, 1)]), (.sym .u8 0 [(9, 1)]), (.sym .u8 0 [(10, 1)]), (.sym .u8 0 [(11, 1)]), (.sym .u8 0 [(12, 1)]), (.sym .u8 0 [(13, 1)]), (.sym .u8 0 [(14, 1)]), (.sym .u8 0 [(15, 1)]), (.sym .u8 0 [(16, 1)]), (.sym .u8 0 [(17, 1)]), (.sym .u8 0 [(18, 1)])]) rfl
          (by
            intro i v hi
            have hlt : i < 18 := by simpa using (List.getElem?_eq_some_iff.1 hi).1
            rcases (by omega : i = 0 ∨ i = 1 ∨ i = 2 ∨ i = 3 ∨ i = 4 ∨ i = 5 ∨ i = 6 ∨ i = 7 ∨ i = 8 ∨ i = 9 ∨ i = 10 ∨ i = 11 ∨ i = 12 ∨ i = 13 ∨ i = 14 ∨ i = 15 ∨ i = 16 ∨ i = 17) with rfl | rfl | rfl | rfl | rfl | rfl | rfl | rfl | rfl | rfl | rfl | rfl | rfl | rfl | rfl | rfl | rfl | rfl <;> (simp at hi; subst hi; exact ⟨rfl, fun μ => .sym .u8 (by rw [hE]; simp)⟩))
          (fun μ hμ => .cons (.sym .u8 (by rw [hE]; simp)) (.cons (.slx (fun h0 => hμ h0) (by simp) (by omega)) (.cons (.bool false) .nil))) k0_L18_f
      · obtain ⟨E, hE⟩ := envOf [(0, 255), (0, 255), (0, 255), (0, 255), (0, 255), (0, 255), (0, 255), (0, 255), (0, 255), (0, 255), (0, 255), (0, 255), (0, 255), (0, 255), (0, 255), (0, 255), (0, 255), (0, 255), (0, 255)] [] (addOf 70 [(0, 255), (0, 255), (0, 255), (0, 255), (0, 255), (0, 255), (0, 255), (0, 255), (0, 255), (0, 255), (0, 255), (0, 255), (0, 255), (0, 255), (0, 255), (0, 255), (0, 255), (0, 255), (0, 255)] []) [a0, z1.getD 0 0, z1.getD 1 0, z1.getD 2 0, z1.getD 3 0, z1.getD 4 0, z1.getD 5 0, z1.getD 6 0, z1.getD 7 0, z1.getD 8 0, z1.getD 9 0, z1.getD 10 0, z1.getD 11 0, z1.getD 12 0, z1.getD 13 0, z1.getD 14 0, z1.getD 15 0, z1.getD 16 0, z1.getD 17 0] (.cons (⟨by omega, by omega⟩) (.cons (hz1 0 (by omega)) (.cons (hz1 1 (by omega)) (.cons (hz1 2 (by omega)) (.cons (hz1 3 (by omega)) (.cons (hz1 4 (by omega)) (.cons (hz1 5 (by omega)) (.cons (hz1 6 (by omega)) (.cons (hz1 7 (by omega)) (.cons (hz1 8 (by omega)) (.cons (hz1 9 (by omega)) (.cons (hz1 10 (by omega)) (.cons (hz1 11 (by omega)) (.cons (hz1 12 (by omega)) (.cons (hz1 13 (by omega)) (.cons (hz1 14 (by omega)) (.cons (hz1 15 (by omega)) (.cons (hz1 16 (by omega)) (.cons (hz1 17 (by omega)) .nil))))))))))))))))))) (by intro e he; simp at he)
        letI : Facts := ⟨[(0, 255), (0, 255), (0, 255), (0, 255), (0, 255), (0, 255), (0, 255), (0, 255), (0, 255), (0, 255), (0, 255), (0, 255), (0, 255), (0, 255), (0, 255), (0, 255), (0, 255), (0, 255), (0, 255)], [], (addOf 70 [(0, 255), (0, 255), (0, 255), (0, 255), (0, 255), (0, 255), (0, 255), (0, 255), (0, 255), (0, 255), (0, 255), (0, 255), (0, 255), (0, 255), (0, 255), (0, 255), (0, 255), (0, 255), (0, 255)] [])⟩
        letI : Env := E
        exact slice_calls addOK hmix (shaped_size hs) (G := 0) (by kernel_rfl) (enter_of Try.func9 (by kernel_rfl) (by kernel_rfl)) (n := 18) (by omega) (by omega) hc1 (cells := [(.sym .u8 0 [(1, 1)]), (.sym .u8 0 [(2, 1)]), (.sym .u8 0 [(3, 1)]), (.sym .u8 0 [(4, 1)]), (.sym .u8 0 [(5, 1)]), (.sym .u8 0 [(6, 1)]), (.sym .u8 0 [(7, 1)]), (.sym .u8 0 [(8, 1)]), (.sym .u8 0 [(9, 1)]), (.sym .u8 0 [(10, 1)]), (.sym .u8 0 [(11, 1)]), (.sym .u8 0 [(12, 1)]), (.sym .u8 0 [(13, 1)]), (.sym .u8 0 [(14, 1)]), (.sym .u8 0 [(15, 1)]), (.sym .u8 0 [(16, 1)]), (.sym .u8 0 [(17, 1)]), (.sym .u8 0 [(18, 1)])]) rfl
          (by
            intro i v hi
            have hlt : i < 18 := by simpa using (List.getElem?_eq_some_iff.1 hi).1
            rcases (by omega : i = 0 ∨ i = 1 ∨ i = 2 ∨ i = 3 ∨ i = 4 ∨ i = 5 ∨ i = 6 ∨ i = 7 ∨ i = 8 ∨ i = 9 ∨ i = 10 ∨ i = 11 ∨ i = 12 ∨ i = 13 ∨ i = 14 ∨ i = 15 ∨ i = 16 ∨ i = 17) with rfl | rfl | rfl | rfl | rfl | rfl | rfl | rfl | rfl | rfl | rfl | rfl | rfl | rfl | rfl | rfl | rfl | rfl <;> (simp at hi; subst hi; exact ⟨rfl, fun μ => .sym .u8 (by rw [hE]; simp)⟩))
          (fun μ hμ => .cons (.sym .u8 (by rw [hE]; simp)) (.cons (.slx (fun h0 => hμ h0) (by simp) (by omega)) (.cons (.bool true) .nil))) k0_L18_t
    · cases a2
      · obtain ⟨E, hE⟩ := envOf [(0, 255), (0, 255), (0, 255), (0, 255), (0, 255), (0, 255), (0, 255), (0, 255), (0, 255), (0, 255), (0, 255), (0, 255), (0, 255), (0, 255), (0, 255), (0, 255), (0, 255), (0, 255), (0, 255), (0, 255)] [] (addOf 70 [(0, 255), (0, 255), (0, 255), (0, 255), (0, 255), (0, 255), (0, 255), (0, 255), (0, 255), (0, 255), (0, 255), (0, 255), (0, 255), (0, 255), (0, 255), (0, 255), (0, 255), (0, 255), (0, 255), (0, 255)] []) [a0, z1.getD 0 0, z1.getD 1 0, z1.getD 2 0, z1.getD 3 0, z1.getD 4 0, z1.getD 5 0, z1.getD 6 0, z1.getD 7 0, z1.getD 8 0, z1.getD 9 0, z1.getD 10 0, z1.getD 11 0, z1.getD 12 0, z1.getD 13 0, z1.getD 14 0, z1.getD 15 0, z1.getD 16 0, z1.getD 17 0, z1.getD 18 0] (.cons (⟨by omega, by omega⟩) (.cons (hz1 0 (by omega)) (.cons (hz1 1 (by omega)) (.cons (hz1 2 (by omega)) (.cons (hz1 3 (by omega)) (.cons (hz1 4 (by omega)) (.cons (hz1 5 (by omega)) (.cons (hz1 6 (by omega)) (.cons (hz1 7 (by omega)) (.cons (hz1 8 (by omega)) (.cons (hz1 9 (by omega)) (.cons (hz1 10 (by omega)) (.cons (hz1 11 (by omega)) (.cons (hz1 12 (by omega)) (.cons (hz1 13 (by omega)) (.cons (hz1 14 (by omega)) (.cons (hz1 15 (by omega)) (.cons (hz1 16 (by omega)) (.cons (hz1 17 (by omega)) (.cons (hz1 18 (by omega)) .nil)))))))))))))))))))) (by intro e he; simp at he)
        letI : Facts := ⟨[(0, 255), (0, 255), (0, 255), (0, 255), (0, 255), (0, 255), (0, 255), (0, 255), (0, 255), (0, 255), (0, 255), (0, 255), (0, 255), (0, 255), (0, 255), (0, 255), (0, 255), (0, 255), (0, 255), (0, 255)], [], (addOf 70 [(0, 255), (0, 255), (0, 255), (0, 255), (0, 255), (0, 255), (0, 255), (0, 255), (0, 255), (0, 255), (0, 255), (0, 255), (0, 255), (0, 255), (0, 255), (0, 255), (0, 255), (0, 255), (0, 255), (0, 255)] [])⟩
        letI : Env := E
        exact slice_calls addOK hmix (shaped_size hs) (G := 0) (by kernel_rfl) (enter_of Try.func9 (by kernel_rfl) (by kernel_rfl)) (n := 19) (by omega) (by omega) hc1 (cells := [(.sym .u8 0 [(1, 1)]), (.sym .u8 0 [(2, 1)]), (.sym .u8 0 [(3, 1)]), (.sym .u8 0 [(4, 1)]), (.sym .u8 0 [(5, 1)]), (.sym .u8 0 [(6, 1)]), (.sym .u8 0 [(7, 1)]), (.sym .u8 0 [(8, 1)]), (.sym .u8 0 [(9, 1)]), (.sym .u8 0 [(10, 1)]), (.sym .u8 0 [(11, 1)]), (.sym .u8 0 [(12, 1)]), (.sym .u8 0 [(13, 1)]), (.sym .u8 0 [(14, 1)]), (.sym .u8 0 [(15, 1)]), (.sym .u8 0 [(16, 1)]), (.sym .u8 0 [(17, 1)]), (.sym .u8 0 [(18, 1)]), (.sym .u8 0 [(19, 1)])]) rfl
          (by
            intro i v hi
            have hlt : i < 19 := by simpa using (List.getElem?_eq_some_iff.1 hi).1
            rcases (by omega : i = 0 ∨ i = 1 ∨ i = 2 ∨ i = 3 ∨ i = 4 ∨ i = 5 ∨ i = 6 ∨ i = 7 ∨ i = 8 ∨ i = 9 ∨ i = 10 ∨ i = 11 ∨ i = 12 ∨ i = 13 ∨ i = 14 ∨ i = 15 ∨ i = 16 ∨ i = 17 ∨ i = 18) with rfl | rfl | rfl | rfl | rfl | rfl | rfl | rfl | rfl | rfl | rfl | rfl | rfl | rfl | rfl | rfl | rfl | rfl | rfl <;> (simp at hi; subst hi; exact ⟨rfl, fun μ => .sym .u8 (by rw [hE]; simp)⟩))
          (fun μ hμ => .cons (.sym .u8 (by rw [hE]; simp)) (.cons (.slx (fun h0 => hμ h0) (by simp) (by omega)) (.cons (.bool false) .nil))) k0_L19_f
      · obtain ⟨E, hE⟩ := envOf [(0, 255), (0, 255), (0, 255), (0, 255), (0, 255), (0, 255), (0, 255), (0, 255), (0, 255), (0, 255), (0, 255), (0, 255), (0, 255), (0, 255), (0, 255), (0, 255), (0, 255), (0, 255), (0, 255), (0, 255)] [] (addOf 70 [(0, 255), (0, 255), (0, 255), (0, 255), (0, 255), (0, 255), (0, 255), (0, 255), (0, 255), (0, 255), (0, 255), (0, 255), (0, 255), (0, 255), (0, 255), (0, 255), (0, 255), (0, 255), (0, 255), (0, 255)] []) [a0, z1.getD 0 0, z1.getD 1 0, z1.getD 2 0, z1.getD 3 0, z1.getD 4 0, z1.getD 5 0, z1.getD 6 0, z1.getD 7 0, z1.getD 8 0, z1.getD 9 0, z1.getD 10 0, z1.getD 11 0, z1.getD 12 0, z1.getD 13 0, z1.getD 14 0, z1.getD 15 0, z1.getD 16 0, z1.getD 17 0, z1.getD 18 0] (.cons (⟨by omega, by omega⟩) (.cons (hz1 0 (by omega)) (.cons (hz1 1 (by omega)) (.cons (hz1 2 (by omega)) (.cons (hz1 3 (by omega)) (.cons (hz1 4 (by omega)) (.cons (hz1 5 (by omega)) (.cons (hz1 6 (by omega)) (.cons (hz1 7 (by omega)) (.cons (hz1 8 (by omega)) (.cons (hz1 9 (by omega)) (.cons (hz1 10 (by omega)) (.cons (hz1 11 (by omega)) (.cons (hz1 12 (by omega)) (.cons (hz1 13 (by omega)) (.cons (hz1 14 (by omega)) (.cons (hz1 15 (by omega)) (.cons (hz1 16 (by omega)) (.cons (hz1 17 (by omega)) (.cons (hz1 18 (by omega)) .nil)))))))))))))))))))) (by intro e he; simp at he)
        letI : Facts := ⟨[(0, 255), (0, 255), (0, 255), (0, 255), (0, 255), (0, 255), (0, 255), (0, 255), (0, 255), (0, 255), (0, 255), (0, 255), (0, 255), (0, 255), (0, 255), (0, 255), (0, 255), (0, 255), (0, 255), (0, 255)], [], (addOf 70 [(0, 255), (0, 255), (0, 255), (0, 255), (0, 255), (0, 255), (0, 255), (0, 255), (0, 255), (0, 255), (0, 255), (0, 255), (0, 255), (0, 255), (0, 255), (0, 255), (0, 255), (0, 255), (0, 255), (0, 255)] [])⟩
        letI : Env := E
        exact slice_calls addOK hmix (shaped_size hs) (G := 0) (by kernel_rfl) (enter_of Try.func9 (by kernel_rfl) (by kernel_rfl)) (n := 19) (by omega) (by omega) hc1 (cells := [(.sym .u8 0 [(1, 1)]), (.sym .u8 0 [(2, 1)]), (.sym .u8 0 [(3, 1)]), (.sym .u8 0 [(4, 1)]), (.sym .u8 0 [(5, 1)]), (.sym .u8 0 [(6, 1)]), (.sym .u8 0 [(7, 1)]), (.sym .u8 0 [(8, 1)]), (.sym .u8 0 [(9, 1)]), (.sym .u8 0 [(10, 1)]), (.sym .u8 0 [(11, 1)]), (.sym .u8 0 [(12, 1)]), (.sym .u8 0 [(13, 1)]), (.sym .u8 0 [(14, 1)]), (.sym .u8 0 [(15, 1)]), (.sym .u8 0 [(16, 1)]), (.sym .u8 0 [(17, 1)]), (.sym .u8 0 [(18, 1)]), (.sym .u8 0 [(19, 1)])]) rfl
          (by
            intro i v hi
            have hlt : i < 19 := by simpa using (List.getElem?_eq_some_iff.1 hi).1
            rcases (by omega : i = 0 ∨ i = 1 ∨ i = 2 ∨ i = 3 ∨ i = 4 ∨ i = 5 ∨ i = 6 ∨ i = 7 ∨ i = 8 ∨ i = 9 ∨ i = 10 ∨ i = 11 ∨ i = 12 ∨ i = 13 ∨ i = 14 ∨ i = 15 ∨ i = 16 ∨ i = 17 ∨ i = 18) with rfl | rfl | rfl | rfl | rfl | rfl | rfl | rfl | rfl | rfl | rfl | rfl | rfl | rfl | rfl | rfl | rfl | rfl | rfl <;> (simp at hi; subst hi; exact ⟨rfl, fun μ => .sym .u8 (by rw [hE]; simp)⟩))
          (fun μ hμ => .cons (.sym .u8 (by rw [hE]; simp)) (.cons (.slx (fun h0 => hμ h0) (by simp) (by omega)) (.cons (.bool true) .nil))) k0_L19_t
    · cases a2
      · obtain ⟨E, hE⟩ := envOf [(0, 255), (0, 255), (0, 255), (0, 255), (0, 255), (0, 255), (0, 255), (0, 255), (0, 255), (0, 255), (0, 255), (0, 255), (0, 255), (0, 255), (0, 255), (0, 255), (0, 255), (0, 255), (0, 255), (0, 255), (0, 255)] [] (addOf 70 [(0, 255), (0, 255), (0, 255), (0, 255), (0, 255), (0, 255), (0, 255), (0, 255), (0, 255), (0, 255), (0, 255), (0, 255), (0, 255), (0, 255), (0, 255), (0, 255), (0, 255), (0, 255), (0, 255), (0, 255), (0, 255)] []) [a0, z1.getD 0 0, z1.getD 1 0, z1.getD 2 0, z1.getD 3 0, z1.getD 4 0, z1.getD 5 0, z1.getD 6 0, z1.getD 7 0, z1.getD 8 0, z1.getD 9 0, z1.getD 10 0, z1.getD 11 0, z1.getD 12 0, z1.getD 13 0, z1.getD 14 0, z1.getD 15 0, z1.getD 16 0, z1.getD 17 0, z1.getD 18 0, z1.getD 19 0] (.cons (⟨by omega, by omega⟩) (.cons (hz1 0 (by omega)) (.cons (hz1 1 (by omega)) (.cons (hz1 2 (by omega)) (.cons (hz1 3 (by omega)) (.cons (hz1 4 (by omega)) (.cons (hz1 5 (by omega)) (.cons (hz1 6 (by omega)) (.cons (hz1 7 (by omega)) (.cons (hz1 8 (by omega)) (.cons (hz1 9 (by omega)) (.cons (hz1 10 (by omega)) (.cons (hz1 11 (by omega)) (.cons (hz1 12 (by omega)) (.cons (hz1 13 (by omega)) (.cons (hz1 14 (by omega)) (.cons (hz1 15 (by omega)) (.cons (hz1 16 (by omega)) (.cons (hz1 17 (by omega)) (.cons (hz1 18 (by omega)) (.cons (hz1 19 (by omega)) .nil))))))))))))))))))))) (by intro e he; simp at he)
        letI : Facts := ⟨[(0, 255), (0, 255), (0, 255), (0, 255), (0, 255), (0, 255), (0, 255), (0, 255), (0, 255), (0, 255), (0, 255), (0, 255), (0, 255), (0, 255), (0, 255), (0, 255), (0, 255), (0, 255), (0, 255), (0, 255), (0, 255)], [], (addOf 70 [(0, 255), (0, 255), (0, 255), (0, 255), (0, 255), (0, 255), (0, 255), (0, 255), (0, 255), (0, 255), (0, 255), (0, 255), (0, 255), (0, 255), (0, 255), (0, 255), (0, 255), (0, 255), (0, 255), (0, 255), (0, 255)] [])⟩
        letI : Env := E
        exact slice_calls addOK hmix (shaped_size hs) (G := 0) (by kernel_rfl) (enter_of Try.func9 (by kernel_rfl) (by kernel_rfl)) (n := 20) (by omega) (by omega) hc1 (cells := [(.sym .u8 0 [(1, 1)]), (.sym .u8 0 [(2, 1)]), (.sym .u8 0 [(3, 1)]), (.sym .u8 0 [(4, 1)]), (.sym .u8 0 [(5, 1)]), (.sym .u8 0 [(6, 1)]), (.sym .u8 0 [(7, 1)]), (.sym .u8 0 [(8, 1)]), (.sym .u8 0 [(9, 1)]), (.sym .u8 0 [(10, 1)]), (.sym .u8 0 [(11, 1)]), (.sym .u8 0 [(12, 1)]), (.sym .u8 0 [(13, 1)]), (.sym .u8 0 [(14, 1)]), (.sym .u8 0 [(15, 1)]), (.sym .u8 0 [(16, 1)]), (.sym .u8 0 [(17, 1)]), (.sym .u8 0 [(18, 1)]), (.sym .u8 0 [(19, 1)]), (.sym .u8 0 [(20, 1)])]) rfl
          (by
            intro i v hi
            have hlt : i < 20 := by simpa using (List.getElem?_eq_some_iff.1 hi).1
            rcases (by omega : i = 0 ∨ i = 1 ∨ i = 2 ∨ i = 3 ∨ i = 4 ∨ i = 5 ∨ i = 6 ∨ i = 7 ∨ i = 8 ∨ i = 9 ∨ i = 10 ∨ i = 11 ∨ i = 12 ∨ i = 13 ∨ i = 14 ∨ i = 15 ∨ i = 16 ∨ i = 17 ∨ i = 18 ∨ i = 19) with rfl | rfl | rfl | rfl | rfl | rfl | rfl | rfl | rfl | rfl | rfl | rfl | rfl | rfl | rfl | rfl | rfl | rfl | rfl | rfl <;> (simp at hi; subst hi; exact ⟨rfl, fun μ => .sym .u8 (by rw [hE]; simp)⟩))
          (fun μ hμ => .cons (.sym .u8 (by rw [hE]; simp)) (.cons (.slx (fun h0 => hμ h0) (by simp) (by omega)) (.cons (.bool false) .nil))) k0_L20_f
      · obtain ⟨E, hE⟩ := envOf [(0, 255), (0, 255), (0, 255), (0, 255), (0, 255), (0, 255), (0, 255), (0, 255), (0, 255), (0, 255), (0, 255), (0, 255), (0, 255), (0, 255), (0, 255), (0, 255), (0, 255), (0, 255), (0, 255), (0, 255), (0, 255)] [] (addOf 70 [(0, 255), (0, 255), (0, 255), (0, 255), (0, 255), (0, 255), (0, 255), (0, 255), (0, 255), (0, 255), (0, 255), (0, 255), (0, 255), (0, 255), (0, 255), (0, 255), (0, 255), (0, 255), (0, 255), (0, 255), (0, 255)] []) [a0, z1.getD 0 0, z1.getD 1 0, z1.getD 2 0, z1.getD 3 0, z1.getD 4 0, z1.getD 5 0, z1.getD 6 0, z1.getD 7 0, z1.getD 8 0, z1.getD 9 0, z1.getD 10 0, z1.getD 11 0, z1.getD 12 0, z1.getD 13 0, z1.getD 14 0, z1.getD 15 0, z1.getD 16 0, z1.getD 17 0, z1.getD 18 0, z1.getD 19 0] (.cons (⟨by omega, by omega⟩) (.cons (hz1 0 (by omega)) (.cons (hz1 1 (by omega)) (.cons (hz1 2 (by omega)) (.cons (hz1 3 (by omega)) (.cons (hz1 4 (by omega)) (.cons (hz1 5 (by omega)) (.cons (hz1 6 (by omega)) (.cons (hz1 7 (by omega)) (.cons (hz1 8 (by omega)) (.cons (hz1 9 (by omega)) (.cons (hz1 10 (by omega)) (.cons (hz1 11 (by omega)) (.cons (hz1 12 (by omega)) (.cons (hz1 13 (by omega)) (.cons (hz1 14 (by omega)) (.cons (hz1 15 (by omega)) (.cons (hz1 16 (by omega)) (.cons (hz1 17 (by omega)) (.cons (hz1 18 (by omega)) (.cons (hz1 19 (by omega)) .nil))))))))))))))))))))) (by intro e he; simp at he)
        letI : Facts := ⟨[(0, 255), (0, 255), (0, 255), (0, 255), (0, 255), (0, 255), (0, 255), (0, 255), (0, 255), (0, 255), (0, 255), (0, 255), (0, 255), (0, 255), (0, 255), (0, 255), (0, 255), (0, 255), (0, 255), (0, 255), (0, 255)], [], (addOf 70 [(0, 255), (0, 255), (0, 255), (0, 255), (0, 255), (0, 255), (0, 255), (0, 255), (0, 255), (0, 255), (0, 255), (0, 255), (0, 255), (0, 255), (0, 255), (0, 255), (0, 255), (0, 255), (0, 255), (0, 255), (0, 255)] [])⟩
        letI : Env := E
        exact slice_calls addOK hmix (shaped_size hs) (G := 0) (by kernel_rfl) (enter_of Try.func9 (by kernel_rfl) (by kernel_rfl)) (n := 20) (by omega) (by omega) hc1 (cells := [(.sym .u8 0 [(1, 1)]), (.sym .u8 0 [(2, 1)]), (.sym .u8 0 [(3, 1)]), (.sym .u8 0 [(4, 1)]), (.sym .u8 0 [(5, 1)]), (.sym .u8 0 [(6, 1)]), (.sym .u8 0 [(7, 1)]), (.sym .u8 0 [(8, 1)]), (.sym .u8 0 [(9, 1)]), (.sym .u8 0 [(10, 1)]), (.sym .u8 0 [(11, 1)]), (.sym .u8 0 [(12, 1)]), (.sym .u8 0 [(13, 1)]), (.sym .u8 0 [(14, 1)]), (.sym .u8 0 [(15, 1)]), (.sym .u8 0 [(16, 1)]), (.sym .u8 0 [(17, 1)]), (.sym .u8 0 [(18, 1)]), (.sym .u8 0 [(19, 1)]), (.sym .u8 0 [(20, 1)])]) rfl
          (by
            intro i v hi
            have hlt : i < 20 := by simpa using (List.getElem?_eq_some_iff.1 hi).1
            rcases (by omega : i = 0 ∨ i = 1 ∨ i = 2 ∨ i = 3 ∨ i = 4 ∨ i = 5 ∨ i = 6 ∨ i = 7 ∨ i = 8 ∨ i = 9 ∨ i = 10 ∨ i = 11 ∨ i = 12 ∨ i = 13 ∨ i = 14 ∨ i = 15 ∨ i = 16 ∨ i = 17 ∨ i = 18 ∨ i = 19) with rfl | rfl | rfl | rfl | rfl | rfl | rfl | rfl | rfl | rfl | rfl | rfl | rfl | rfl | rfl | rfl | rfl | rfl | rfl | rfl <;> (simp at hi; subst hi; exact ⟨rfl, fun μ => .sym .u8 (by rw [hE]; simp)⟩))
          (fun μ hμ => .cons (.sym .u8 (by rw [hE]; simp)) (.cons (.slx (fun h0 => hμ h0) (by simp) (by omega)) (.cons (.bool true) .nil))) k0_L20_t
    · cases a2
      · obtain ⟨E, hE⟩ := envOf [(0, 255), (0, 255), (0, 255), (0, 255), (0, 255), (0, 255), (0, 255), (0, 255), (0, 255), (0, 255), (0, 255), (0, 255), (0, 255), (0, 255), (0, 255), (0, 255), (0, 255), (0, 255), (0, 255), (0, 255), (0, 255), (0, 255), (21, 9223372036854775807)] [] (addOf 70 [(0, 255), (0, 255), (0, 255), (0, 255), (0, 255), (0, 255), (0, 255), (0, 255), (0, 255), (0, 255), (0, 255), (0, 255), (0, 255), (0, 255), (0, 255), (0, 255), (0, 255), (0, 255), (0, 255), (0, 255), (0, 255), (0, 255), (21, 9223372036854775807)] []) [a0, z1.getD 0 0, z1.getD 1 0, z1.getD 2 0, z1.getD 3 0, z1.getD 4 0, z1.getD 5 0, z1.getD 6 0, z1.getD 7 0, z1.getD 8 0, z1.getD 9 0, z1.getD 10 0, z1.getD 11 0, z1.getD 12 0, z1.getD 13 0, z1.getD 14 0, z1.getD 15 0, z1.getD 16 0, z1.getD 17 0, z1.getD 18 0, z1.getD 19 0, z1.getD 20 0, (len1 : Int)] (.cons (⟨by omega, by omega⟩) (.cons (hz1 0 (by omega)) (.cons (hz1 1 (by omega)) (.cons (hz1 2 (by omega)) (.cons (hz1 3 (by omega)) (.cons (hz1 4 (by omega)) (.cons (hz1 5 (by omega)) (.cons (hz1 6 (by omega)) (.cons (hz1 7 (by omega)) (.cons (hz1 8 (by omega)) (.cons (hz1 9 (by omega)) (.cons (hz1 10 (by omega)) (.cons (hz1 11 (by omega)) (.cons (hz1 12 (by omega)) (.cons (hz1 13 (by omega)) (.cons (hz1 14 (by omega)) (.cons (hz1 15 (by omega)) (.cons (hz1 16 (by omega)) (.cons (hz1 17 (by omega)) (.cons (hz1 18 (by omega)) (.cons (hz1 19 (by omega)) (.cons (hz1 20 (by omega)) (.cons (⟨by omega, by omega⟩) .nil))))))))))))))))))))))) (by intro e he; simp at he)
        letI : Facts := ⟨[(0, 255), (0, 255), (0, 255), (0, 255), (0, 255), (0, 255), (0, 255), (0, 255), (0, 255), (0, 255), (0, 255), (0, 255), (0, 255), (0, 255), (0, 255), (0, 255), (0, 255), (0, 255), (0, 255), (0, 255), (0, 255), (0, 255), (21, 9223372036854775807)], [], (addOf 70 [(0, 255), (0, 255), (0, 255), (0, 255), (0, 255), (0, 255), (0, 255), (0, 255), (0, 255), (0, 255), (0, 255), (0, 255), (0, 255), (0, 255), (0, 255), (0, 255), (0, 255), (0, 255), (0, 255), (0, 255), (0, 255), (0, 255), (21, 9223372036854775807)] [])⟩
        letI : Env := E
        exact slice_calls addOK hmix (shaped_size hs) (G := 0) (by kernel_rfl) (enter_of Try.func9 (by kernel_rfl) (by kernel_rfl)) (n := 21) (by omega) (by omega) hc1 (cells := [(.sym .u8 0 [(1, 1)]), (.sym .u8 0 [(2, 1)]), (.sym .u8 0 [(3, 1)]), (.sym .u8 0 [(4, 1)]), (.sym .u8 0 [(5, 1)]), (.sym .u8 0 [(6, 1)]), (.sym .u8 0 [(7, 1)]), (.sym .u8 0 [(8, 1)]), (.sym .u8 0 [(9, 1)]), (.sym .u8 0 [(10, 1)]), (.sym .u8 0 [(11, 1)]), (.sym .u8 0 [(12, 1)]), (.sym .u8 0 [(13, 1)]), (.sym .u8 0 [(14, 1)]), (.sym .u8 0 [(15, 1)]), (.sym .u8 0 [(16, 1)]), (.sym .u8 0 [(17, 1)]), (.sym .u8 0 [(18, 1)]), (.sym .u8 0 [(19, 1)]), (.sym .u8 0 [(20, 1)]), (.sym .u8 0 [(21, 1)])]) rfl
          (by
            intro i v hi
            have hlt : i < 21 := by simpa using (List.getElem?_eq_some_iff.1 hi).1
            rcases (by omega : i = 0 ∨ i = 1 ∨ i = 2 ∨ i = 3 ∨ i = 4 ∨ i = 5 ∨ i = 6 ∨ i = 7 ∨ i = 8 ∨ i = 9 ∨ i = 10 ∨ i = 11 ∨ i = 12 ∨ i = 13 ∨ i = 14 ∨ i = 15 ∨ i = 16 ∨ i = 17 ∨ i = 18 ∨ i = 19 ∨ i = 20) with rfl | rfl | rfl | rfl | rfl | rfl | rfl | rfl | rfl | rfl | rfl | rfl | rfl | rfl | rfl | rfl | rfl | rfl | rfl | rfl | rfl <;> (simp at hi; subst hi; exact ⟨rfl, fun μ => .sym .u8 (by rw [hE]; simp)⟩))
          (fun μ hμ => .cons (.sym .u8 (by rw [hE]; simp)) (.cons (.slx (fun h0 => hμ h0) (by rw [hE]; simp) (by omega)) (.cons (.bool false) .nil))) k0_L21up_f
      · obtain ⟨E, hE⟩ := envOf [(0, 255), (0, 255), (0, 255), (0, 255), (0, 255), (0, 255), (0, 255), (0, 255), (0, 255), (0, 255), (0, 255), (0, 255), (0, 255), (0, 255), (0, 255), (0, 255), (0, 255), (0, 255), (0, 255), (0, 255), (0, 255), (0, 255), (21, 9223372036854775807)] [] (addOf 70 [(0, 255), (0, 255), (0, 255), (0, 255), (0, 255), (0, 255), (0, 255), (0, 255), (0, 255), (0, 255), (0, 255), (0, 255), (0, 255), (0, 255), (0, 255), (0, 255), (0, 255), (0, 255), (0, 255), (0, 255), (0, 255), (0, 255), (21, 9223372036854775807)] []) [a0, z1.getD 0 0, z1.getD 1 0, z1.getD 2 0, z1.getD 3 0, z1.getD 4 0, z1.getD 5 0, z1.getD 6 0, z1.getD 7 0, z1.getD 8 0, z1.getD 9 0, z1.getD 10 0, z1.getD 11 0, z1.getD 12 0, z1.getD 13 0, z1.getD 14 0, z1.getD 15 0, z1.getD 16 0, z1.getD 17 0, z1.getD 18 0, z1.getD 19 0, z1.getD 20 0, (len1 : Int)] (.cons (⟨by omega, by omega⟩) (.cons (hz1 0 (by omega)) (.cons (hz1 1 (by omega)) (.cons (hz1 2 (by omega)) (.cons (hz1 3 (by omega)) (.cons (hz1 4 (by omega)) (.cons (hz1 5 (by omega)) (.cons (hz1 6 (by omega)) (.cons (hz1 7 (by omega)) (.cons (hz1 8 (by omega)) (.cons (hz1 9 (by omega)) (.cons (hz1 10 (by omega)) (.cons (hz1 11 (by omega)) (.cons (hz1 12 (by omega)) (.cons (hz1 13 (by omega)) (.cons (hz1 14 (by omega)) (.cons (hz1 15 (by omega)) (.cons (hz1 16 (by omega)) (.cons (hz1 17 (by omega)) (.cons (hz1 18 (by omega)) (.cons (hz1 19 (by omega)) (.cons (hz1 20 (by omega)) (.cons (⟨by omega, by omega⟩) .nil))))))))))))))))))))))) (by intro e he; simp at he)
        letI : Facts := ⟨[(0, 255), (0, 255), (0, 255), (0, 255), (0, 255), (0, 255), (0, 255), (0, 255), (0, 255), (0, 255), (0, 255), (0, 255), (0, 255), (0, 255), (0, 255), (0, 255), (0, 255), (0, 255), (0, 255), (0, 255), (0, 255), (0, 255), (21, 9223372036854775807)], [], (addOf 70 [(0, 255), (0, 255), (0, 255), (0, 255), (0, 255), (0, 255), (0, 255), (0, 255), (0, 255), (0, 255), (0, 255), (0, 255), (0, 255), (0, 255), (0, 255), (0, 255), (0, 255), (0, 255), (0, 255), (0, 255), (0, 255), (0, 255), (21, 9223372036854775807)] [])⟩
        letI : Env := E
        exact slice_calls addOK hmix (shaped_size hs) (G := 0) (by kernel_rfl) (enter_of Try.func9 (by kernel_rfl) (by kernel_rfl)) (n := 21) (by omega) (by omega) hc1 (cells := [(.sym .u8 0 [(1, 1)]), (.sym .u8 0 [(2, 1)]), (.sym .u8 0 [(3, 1)]), (.sym .u8 0 [(4, 1)]), (.sym .u8 0 [(5, 1)]), (.sym .u8 0 [(6, 1)]), (.sym .u8 0 [(7, 1)]), (.sym .u8 0 [(8, 1)]), (.sym .u8 0 [(9, 1)]), (.sym .u8 0 [(10, 1)]), (.sym .u8 0 [(11, 1)]), (.sym .u8 0 [(12, 1)]), (.sym .u8 0 [(13, 1)]), (.sym .u8 0 [(14, 1)]), (.sym .u8 0 [(15, 1)]), (.sym .u8 0 [(16, 1)]), (.sym .u8 0 [(17, 1)]), (.sym .u8 0 [(18, 1)]), (.sym .u8 0 [(19, 1)]), (.sym .u8 0 [(20, 1)]), (.sym .u8 0 [(21, 1)])]) rfl
          (by
            intro i v hi
            have hlt : i < 21 := by simpa using (List.getElem?_eq_some_iff.1 hi).1
            rcases (by omega : i = 0 ∨ i = 1 ∨ i = 2 ∨ i = 3 ∨ i = 4 ∨ i = 5 ∨ i = 6 ∨ i = 7 ∨ i = 8 ∨ i = 9 ∨ i = 10 ∨ i = 11 ∨ i = 12 ∨ i = 13 ∨ i = 14 ∨ i = 15 ∨ i = 16 ∨ i = 17 ∨ i = 18 ∨ i = 19 ∨ i = 20) with rfl | rfl | rfl | rfl | rfl | rfl | rfl | rfl | rfl | rfl | rfl | rfl | rfl | rfl | rfl | rfl | rfl | rfl | rfl | rfl | rfl <;> (simp at hi; subst hi; exact ⟨rfl, fun μ => .sym .u8 (by rw [hE]; simp)⟩))
          (fun μ hμ => .cons (.sym .u8 (by rw [hE]; simp)) (.cons (.slx (fun h0 => hμ h0) (by rw [hE]; simp) (by omega)) (.cons (.bool true) .nil))) k0_L21up_t

/-! ### THE ROW's STEP: WRITTEN OUT: LEAVE IT -/
set_option maxRecDepth 100000 in
theorem lifted (os : Os) (started : os.Started) (H : Type) (enc : TypeId × Value → H) :
    ReturnsInHanded {} Try.checked os 9 .any (Rows.serviceWatchesSpec.pre6 enc Try.prog Try.f9 Rows.serviceWatchesRow.domain false) (Rows.serviceWatchesSpec.post enc Try.prog Try.f9 false true false false) := by
  refine of_shaped (C := Try.checked) own started (by kernel_rfl) Try.func9
    (ChangeSpec.witness6 (enc := enc) (C := Try.checked) false ⟨#[], #[.int .u8 0, .slice none 0 0, .bool false], []⟩ 8 (by kernel_rfl) (by kernel_rfl) (by kernel_rfl) (by kernel_rfl)) ?_
  intro W base args ds gs before hshape hval0 hW
  have hval : ∀ (j : Nat) t v, Try.f9.params[j]? = some t → args[j]? = some v → Value.okWide Try.prog W .any base t v := hval0
  have hW' := hW
  obtain ⟨p, q, hA0, hV, rfl, hfz, hnd⟩ := hW
  have hA : DataW.TrodAll enc Try.prog W 0 (fun _ => true) true Try.f9.params.toList args.toList ds p := hA0
  rw [Try.params9] at hA hval
  obtain ⟨v0, vs0, d0, ds0, p0, q0, hargs, rfl, rfl, h0, r0⟩ := trodAll_cons hA
  obtain ⟨v1, vs1, d1, ds1, p1, q1, rfl, rfl, rfl, h1, r1⟩ := trodAll_cons r0
  obtain ⟨v2, vs2, d2, ds2, p2, q2, rfl, rfl, rfl, h2, r2⟩ := trodAll_cons r1
  obtain ⟨rfl, rfl, rfl⟩ := trodAll_nil r2
  obtain rfl : args = #[v0, v1, v2] := by cases args; simp_all
  obtain ⟨rfl, rfl⟩ := trodVars_none hV
  obtain ⟨a0, rfl, rfl, rfl, w0⟩ := open_int Try.underlying5 (hval 0 5 v0 rfl rfl) h0
  obtain ⟨a1, len1, cap1, rfl⟩ := okWide_slice Try.underlying54 (hval 1 54 v1 rfl rfl)
  have k1 := h1
  have lt1 : ∀ x ∈ p1, x.block < W.heap.size := by obtain ⟨m, hm⟩ := k1; exact DataW.trod_lt m _ _ _ hm
  obtain ⟨z1, w1⟩ : ∃ zs, IsRow .u8 W a1 len1 cap1 zs := by
    obtain ⟨fuel, hf⟩ := h1
    rcases open_ints Try.underlying54 Try.underlying5 (by kernel_rfl) hf with ⟨hcs, _⟩ | ⟨x, l, c, zs, hcs, _, hl, hm, hz, _, hcell, hwz⟩
    · simp [Value.cells] at hcs
      obtain ⟨rfl, rfl, rfl⟩ := hcs
      exact ⟨[], .inl ⟨rfl, rfl, rfl, rfl⟩⟩
    · simp [Value.cells] at hcs
      obtain ⟨rfl, rfl, rfl⟩ := hcs
      exact ⟨zs, .inr ⟨_, rfl, hl, hm, by simpa using hz, hcell, hwz⟩⟩
  obtain ⟨a2, rfl, rfl, rfl⟩ := open_bool Try.underlying4 (hval 2 4 v2 rfl rfl) h2
  clear hA0 hval0
  refine (walk a0 a1 len1 cap1 z1 a2 W w0 w1 hshape).mono fun e W' ⟨he, bel⟩ => ?_
  subst he
  exact ⟨_, rfl, _, _, _, [], _, [], hW', trodAll_mk1 (shut_bool Try.underlying4 _), (trodAll_cons_mk (shut_int Try.underlying5 w0) (trodAll_cons_mk (Below.trod laidOut (by kernel_rfl) (of_decide_eq_true (by kernel_rfl)) k1 bel lt1) (trodAll_cons_mk (shut_bool Try.underlying4 _) trodAll_mk0))), rfl, bel.frame _, fun h => by cases h⟩

theorem over : Rows.serviceWatchesRow.holds Try.pinned (OpenSpec.ofChange Rows.serviceWatchesSpec) :=
  OpenClaim.holds_of_wide 9 Try.f9 rfl rfl rfl rfl rfl rfl rfl ⟨rfl, rfl, rfl, rfl, rfl⟩ rfl rfl rfl rfl rfl (by kernel_rfl) Try.func9 (by kernel_rfl)
    (of_decide_eq_true (by kernel_rfl)) (by unfold Func.isWrapper; first | (rw [if_pos (by decide +kernel)]; kernel_rfl) | (rw [if_neg (by decide +kernel)]; exact ⟨rfl, rfl⟩))
    (fun os started H enc _ => lifted os started H enc)

theorem proved : Rows.ServiceWatchesSaid := over
#print axioms proved
end Go.Proofs.Ytnoddedgkgkfhaa.serviceWatches
