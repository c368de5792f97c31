/- The statement 'ServiceRestarts' holds of the given program: whatever the input, the law's function returns true. No condition. -/
import Derived.Test.YtnoddedgkgkfhaaRows
import Derived.WalkKit
import Derived.ProofKit
import Derived.OpenShut
import Derived.ShutString
import Derived.Test.YtnoddedgkgkfhaaEv5
import Derived.Test.YtnoddedgkgkfhaaRestartsK0
import Derived.Test.YtnoddedgkgkfhaaRestartsK1
import Derived.Test.YtnoddedgkgkfhaaRestartsK2
import Derived.Test.YtnoddedgkgkfhaaRestartsK3
namespace Go.Proofs.Ytnoddedgkgkfhaa.serviceRestarts
open Go.Ev
open Go.ChangeShapes Go.WideShapes Go.ChangeAt Go.RowKit
open Go.ChangeMaps (open_string shut_string)
set_option linter.unusedVariables false      -- a walk need not use every 'w<i>' (that an integer argument fits its kind)

theorem own : ownKnob Try.prog.godebug = none := by kernel_rfl

theorem walk (a0 : Int) (a1 : Bool) (a2 : Bool) (a3 : Int) (w0 : (Lit.int .u8 a0).wf = true) (w3 : (Lit.int .u16 a3).wf = true) (w : World) (hs : w.ShapedOpen Try.prog) :
    Calls Try.prog 8 #[.int .u8 a0, .bool a1, .bool a2, .int .u16 a3] w fun e w' => e = .returned (.bool true) ∧ Below w.heap.size w w' := by
  have hmix : Try.prog.follows .mixedOrders = true := Try.checked.mixed
  obtain ⟨n0, rfl⟩ : ∃ n : Nat, a0 = n := ⟨a0.toNat, by
    have := w0
    simp [Lit.wf, IntKind.min, IntKind.max, IntKind.signed, IntKind.bits] at this
    omega⟩
  have hb0 : 0 ≤ (n0 : Int) ∧ (n0 : Int) ≤ 255 := by
    have := w0
    simp [Lit.wf, IntKind.min, IntKind.max, IntKind.signed, IntKind.bits] at this
    omega
  have hb3 : 0 ≤ a3 ∧ a3 ≤ 65535 := by
    have := w3
    simp [Lit.wf, IntKind.min, IntKind.max, IntKind.signed, IntKind.bits] at this
    omega
  have key : ∀ (F : Facts) (E : @Env F) (l : List AV), (∀ μ, @VRs F E μ l [.int .u8 (n0 : Int), .bool a1, .bool a2, .int .u16 a3]) → isTrue (@Ev.run F Try.prog 100000 8 l) = true →
      Calls Try.prog 8 #[.int .u8 (n0 : Int), .bool a1, .bool a2, .int .u16 a3] w fun e w' => e = .returned (.bool true) ∧ Below w.heap.size w w' := fun F E l hv h =>
    run_calls (F := F) (E := E) hmix (shaped_size hs) (enter_of Try.func8 (by kernel_rfl) (by kernel_rfl)) hv h
  have ho0 : n0 % 3 = 0 ∨ n0 % 3 = 1 ∨ n0 % 3 = 2 := by omega
  have ho3 : a3 = 0 ∨ (1 ≤ a3 ∧ a3 ≤ 3) ∨ (4 ≤ a3 ∧ a3 ≤ 65535) := by omega
  rcases ho0 with h0 | h0 | h0
  · cases a1
    · cases a2
      · rcases ho3 with rfl | h3 | h3
        · obtain ⟨E, hE⟩ := envOf [] [] [] (.nil) (by intro e he; simp at he)
          exact key _ E _ (fun μ => by letI : Facts := ⟨[], []⟩; letI : Env := E; exact .cons (.res .u8 h0) (.cons (.bool false) (.cons (.bool false) (.cons (.int .u16 _) .nil)))) k0_f_f_0
        · obtain ⟨E, hE⟩ := envOf [(1, 3)] [] [a3] (.cons (⟨by omega, by omega⟩) .nil) (by intro e he; simp at he)
          exact key _ E _ (fun μ => by letI : Facts := ⟨[(1, 3)], []⟩; letI : Env := E; exact .cons (.res .u8 h0) (.cons (.bool false) (.cons (.bool false) (.cons (.sym .u16 (by rw [hE]; simp)) .nil)))) k0_f_f_1
        · obtain ⟨E, hE⟩ := envOf [(4, 65535)] [] [a3] (.cons (⟨by omega, by omega⟩) .nil) (by intro e he; simp at he)
          exact key _ E _ (fun μ => by letI : Facts := ⟨[(4, 65535)], []⟩; letI : Env := E; exact .cons (.res .u8 h0) (.cons (.bool false) (.cons (.bool false) (.cons (.sym .u16 (by rw [hE]; simp)) .nil)))) k0_f_f_2
      · rcases ho3 with rfl | h3 | h3
        · obtain ⟨E, hE⟩ := envOf [] [] [] (.nil) (by intro e he; simp at he)
          exact key _ E _ (fun μ => by letI : Facts := ⟨[], []⟩; letI : Env := E; exact .cons (.res .u8 h0) (.cons (.bool false) (.cons (.bool true) (.cons (.int .u16 _) .nil)))) k0_f_t_0
        · obtain ⟨E, hE⟩ := envOf [(1, 3)] [] [a3] (.cons (⟨by omega, by omega⟩) .nil) (by intro e he; simp at he)
          exact key _ E _ (fun μ => by letI : Facts := ⟨[(1, 3)], []⟩; letI : Env := E; exact .cons (.res .u8 h0) (.cons (.bool false) (.cons (.bool true) (.cons (.sym .u16 (by rw [hE]; simp)) .nil)))) k0_f_t_1
        · obtain ⟨E, hE⟩ := envOf [(4, 65535)] [] [a3] (.cons (⟨by omega, by omega⟩) .nil) (by intro e he; simp at he)
          exact key _ E _ (fun μ => by letI : Facts := ⟨[(4, 65535)], []⟩; letI : Env := E; exact .cons (.res .u8 h0) (.cons (.bool false) (.cons (.bool true) (.cons (.sym .u16 (by rw [hE]; simp)) .nil)))) k0_f_t_2
    · cases a2
      · rcases ho3 with rfl | h3 | h3
        · obtain ⟨E, hE⟩ := envOf [] [] [] (.nil) (by intro e he; simp at he)
          exact key _ E _ (fun μ => by letI : Facts := ⟨[], []⟩; letI : Env := E; exact .cons (.res .u8 h0) (.cons (.bool true) (.cons (.bool false) (.cons (.int .u16 _) .nil)))) k0_t_f_0
        · obtain ⟨E, hE⟩ := envOf [(1, 3)] [] [a3] (.cons (⟨by omega, by omega⟩) .nil) (by intro e he; simp at he)
          exact key _ E _ (fun μ => by letI : Facts := ⟨[(1, 3)], []⟩; letI : Env := E; exact .cons (.res .u8 h0) (.cons (.bool true) (.cons (.bool false) (.cons (.sym .u16 (by rw [hE]; simp)) .nil)))) k0_t_f_1
        · obtain ⟨E, hE⟩ := envOf [(4, 65535)] [] [a3] (.cons (⟨by omega, by omega⟩) .nil) (by intro e he; simp at he)
          exact key _ E _ (fun μ => by letI : Facts := ⟨[(4, 65535)], []⟩; letI : Env := E; exact .cons (.res .u8 h0) (.cons (.bool true) (.cons (.bool false) (.cons (.sym .u16 (by rw [hE]; simp)) .nil)))) k0_t_f_2
      · rcases ho3 with rfl | h3 | h3
        · obtain ⟨E, hE⟩ := envOf [] [] [] (.nil) (by intro e he; simp at he)
          exact key _ E _ (fun μ => by letI : Facts := ⟨[], []⟩; letI : Env := E; exact .cons (.res .u8 h0) (.cons (.bool true) (.cons (.bool true) (.cons (.int .u16 _) .nil)))) k0_t_t_0
        · obtain ⟨E, hE⟩ := envOf [(1, 3)] [] [a3] (.cons (⟨by omega, by omega⟩) .nil) (by intro e he; simp at he)
          exact key _ E _ (fun μ => by letI : Facts := ⟨[(1, 3)], []⟩; letI : Env := E; exact .cons (.res .u8 h0) (.cons (.bool true) (.cons (.bool true) (.cons (.sym .u16 (by rw [hE]; simp)) .nil)))) k0_t_t_1
        · obtain ⟨E, hE⟩ := envOf [(4, 65535)] [] [a3] (.cons (⟨by omega, by omega⟩) .nil) (by intro e he; simp at he)
          exact key _ E _ (fun μ => by letI : Facts := ⟨[(4, 65535)], []⟩; letI : Env := E; exact .cons (.res .u8 h0) (.cons (.bool true) (.cons (.bool true) (.cons (.sym .u16 (by rw [hE]; simp)) .nil)))) k0_t_t_2
  · cases a1
    · cases a2
      · rcases ho3 with rfl | h3 | h3
        · obtain ⟨E, hE⟩ := envOf [] [] [] (.nil) (by intro e he; simp at he)
          exact key _ E _ (fun μ => by letI : Facts := ⟨[], []⟩; letI : Env := E; exact .cons (.res .u8 h0) (.cons (.bool false) (.cons (.bool false) (.cons (.int .u16 _) .nil)))) k1_f_f_0
        · obtain ⟨E, hE⟩ := envOf [(1, 3)] [] [a3] (.cons (⟨by omega, by omega⟩) .nil) (by intro e he; simp at he)
          exact key _ E _ (fun μ => by letI : Facts := ⟨[(1, 3)], []⟩; letI : Env := E; exact .cons (.res .u8 h0) (.cons (.bool false) (.cons (.bool false) (.cons (.sym .u16 (by rw [hE]; simp)) .nil)))) k1_f_f_1
        · obtain ⟨E, hE⟩ := envOf [(4, 65535)] [] [a3] (.cons (⟨by omega, by omega⟩) .nil) (by intro e he; simp at he)
          exact key _ E _ (fun μ => by letI : Facts := ⟨[(4, 65535)], []⟩; letI : Env := E; exact .cons (.res .u8 h0) (.cons (.bool false) (.cons (.bool false) (.cons (.sym .u16 (by rw [hE]; simp)) .nil)))) k1_f_f_2
      · rcases ho3 with rfl | h3 | h3
        · obtain ⟨E, hE⟩ := envOf [] [] [] (.nil) (by intro e he; simp at he)
          exact key _ E _ (fun μ => by letI : Facts := ⟨[], []⟩; letI : Env := E; exact .cons (.res .u8 h0) (.cons (.bool false) (.cons (.bool true) (.cons (.int .u16 _) .nil)))) k1_f_t_0
        · obtain ⟨E, hE⟩ := envOf [(1, 3)] [] [a3] (.cons (⟨by omega, by omega⟩) .nil) (by intro e he; simp at he)
          exact key _ E _ (fun μ => by letI : Facts := ⟨[(1, 3)], []⟩; letI : Env := E; exact .cons (.res .u8 h0) (.cons (.bool false) (.cons (.bool true) (.cons (.sym .u16 (by rw [hE]; simp)) .nil)))) k1_f_t_1
        · obtain ⟨E, hE⟩ := envOf [(4, 65535)] [] [a3] (.cons (⟨by omega, by omega⟩) .nil) (by intro e he; simp at he)
          exact key _ E _ (fun μ => by letI : Facts := ⟨[(4, 65535)], []⟩; letI : Env := E; exact .cons (.res .u8 h0) (.cons (.bool false) (.cons (.bool true) (.cons (.sym .u16 (by rw [hE]; simp)) .nil)))) k1_f_t_2
    · cases a2
      · rcases ho3 with rfl | h3 | h3
        · obtain ⟨E, hE⟩ := envOf [] [] [] (.nil) (by intro e he; simp at he)
          exact key _ E _ (fun μ => by letI : Facts := ⟨[], []⟩; letI : Env := E; exact .cons (.res .u8 h0) (.cons (.bool true) (.cons (.bool false) (.cons (.int .u16 _) .nil)))) k1_t_f_0
        · obtain ⟨E, hE⟩ := envOf [(1, 3)] [] [a3] (.cons (⟨by omega, by omega⟩) .nil) (by intro e he; simp at he)
          exact key _ E _ (fun μ => by letI : Facts := ⟨[(1, 3)], []⟩; letI : Env := E; exact .cons (.res .u8 h0) (.cons (.bool true) (.cons (.bool false) (.cons (.sym .u16 (by rw [hE]; simp)) .nil)))) k1_t_f_1
        · obtain ⟨E, hE⟩ := envOf [(4, 65535)] [] [a3] (.cons (⟨by omega, by omega⟩) .nil) (by intro e he; simp at he)
          exact key _ E _ (fun μ => by letI : Facts := ⟨[(4, 65535)], []⟩; letI : Env := E; exact .cons (.res .u8 h0) (.cons (.bool true) (.cons (.bool false) (.cons (.sym .u16 (by rw [hE]; simp)) .nil)))) k1_t_f_2
      · rcases ho3 with rfl | h3 | h3
        · obtain ⟨E, hE⟩ := envOf [] [] [] (.nil) (by intro e he; simp at he)
          exact key _ E _ (fun μ => by letI : Facts := ⟨[], []⟩; letI : Env := E; exact .cons (.res .u8 h0) (.cons (.bool true) (.cons (.bool true) (.cons (.int .u16 _) .nil)))) k1_t_t_0
        · obtain ⟨E, hE⟩ := envOf [(1, 3)] [] [a3] (.cons (⟨by omega, by omega⟩) .nil) (by intro e he; simp at he)
          exact key _ E _ (fun μ => by letI : Facts := ⟨[(1, 3)], []⟩; letI : Env := E; exact .cons (.res .u8 h0) (.cons (.bool true) (.cons (.bool true) (.cons (.sym .u16 (by rw [hE]; simp)) .nil)))) k1_t_t_1
        · obtain ⟨E, hE⟩ := envOf [(4, 65535)] [] [a3] (.cons (⟨by omega, by omega⟩) .nil) (by intro e he; simp at he)
          exact key _ E _ (fun μ => by letI : Facts := ⟨[(4, 65535)], []⟩; letI : Env := E; exact .cons (.res .u8 h0) (.cons (.bool true) (.cons (.bool true) (.cons (.sym .u16 (by rw [hE]; simp)) .nil)))) k1_t_t_2
  · cases a1
    · cases a2
      · rcases ho3 with rfl | h3 | h3
        · obtain ⟨E, hE⟩ := envOf [] [] [] (.nil) (by intro e he; simp at he)
          exact key _ E _ (fun μ => by letI : Facts := ⟨[], []⟩; letI : Env := E; exact .cons (.res .u8 h0) (.cons (.bool false) (.cons (.bool false) (.cons (.int .u16 _) .nil)))) k2_f_f_0
        · obtain ⟨E, hE⟩ := envOf [(1, 3)] [] [a3] (.cons (⟨by omega, by omega⟩) .nil) (by intro e he; simp at he)
          exact key _ E _ (fun μ => by letI : Facts := ⟨[(1, 3)], []⟩; letI : Env := E; exact .cons (.res .u8 h0) (.cons (.bool false) (.cons (.bool false) (.cons (.sym .u16 (by rw [hE]; simp)) .nil)))) k2_f_f_1
        · obtain ⟨E, hE⟩ := envOf [(4, 65535)] [] [a3] (.cons (⟨by omega, by omega⟩) .nil) (by intro e he; simp at he)
          exact key _ E _ (fun μ => by letI : Facts := ⟨[(4, 65535)], []⟩; letI : Env := E; exact .cons (.res .u8 h0) (.cons (.bool false) (.cons (.bool false) (.cons (.sym .u16 (by rw [hE]; simp)) .nil)))) k2_f_f_2
      · rcases ho3 with rfl | h3 | h3
        · obtain ⟨E, hE⟩ := envOf [] [] [] (.nil) (by intro e he; simp at he)
          exact key _ E _ (fun μ => by letI : Facts := ⟨[], []⟩; letI : Env := E; exact .cons (.res .u8 h0) (.cons (.bool false) (.cons (.bool true) (.cons (.int .u16 _) .nil)))) k2_f_t_0
        · obtain ⟨E, hE⟩ := envOf [(1, 3)] [] [a3] (.cons (⟨by omega, by omega⟩) .nil) (by intro e he; simp at he)
          exact key _ E _ (fun μ => by letI : Facts := ⟨[(1, 3)], []⟩; letI : Env := E; exact .cons (.res .u8 h0) (.cons (.bool false) (.cons (.bool true) (.cons (.sym .u16 (by rw [hE]; simp)) .nil)))) k2_f_t_1
        · obtain ⟨E, hE⟩ := envOf [(4, 65535)] [] [a3] (.cons (⟨by omega, by omega⟩) .nil) (by intro e he; simp at he)
          exact key _ E _ (fun μ => by letI : Facts := ⟨[(4, 65535)], []⟩; letI : Env := E; exact .cons (.res .u8 h0) (.cons (.bool false) (.cons (.bool true) (.cons (.sym .u16 (by rw [hE]; simp)) .nil)))) k2_f_t_2
    · cases a2
      · rcases ho3 with rfl | h3 | h3
        · obtain ⟨E, hE⟩ := envOf [] [] [] (.nil) (by intro e he; simp at he)
          exact key _ E _ (fun μ => by letI : Facts := ⟨[], []⟩; letI : Env := E; exact .cons (.res .u8 h0) (.cons (.bool true) (.cons (.bool false) (.cons (.int .u16 _) .nil)))) k2_t_f_0
        · obtain ⟨E, hE⟩ := envOf [(1, 3)] [] [a3] (.cons (⟨by omega, by omega⟩) .nil) (by intro e he; simp at he)
          exact key _ E _ (fun μ => by letI : Facts := ⟨[(1, 3)], []⟩; letI : Env := E; exact .cons (.res .u8 h0) (.cons (.bool true) (.cons (.bool false) (.cons (.sym .u16 (by rw [hE]; simp)) .nil)))) k2_t_f_1
        · obtain ⟨E, hE⟩ := envOf [(4, 65535)] [] [a3] (.cons (⟨by omega, by omega⟩) .nil) (by intro e he; simp at he)
          exact key _ E _ (fun μ => by letI : Facts := ⟨[(4, 65535)], []⟩; letI : Env := E; exact .cons (.res .u8 h0) (.cons (.bool true) (.cons (.bool false) (.cons (.sym .u16 (by rw [hE]; simp)) .nil)))) k2_t_f_2
      · rcases ho3 with rfl | h3 | h3
        · obtain ⟨E, hE⟩ := envOf [] [] [] (.nil) (by intro e he; simp at he)
          exact key _ E _ (fun μ => by letI : Facts := ⟨[], []⟩; letI : Env := E; exact .cons (.res .u8 h0) (.cons (.bool true) (.cons (.bool true) (.cons (.int .u16 _) .nil)))) k2_t_t_0
        · obtain ⟨E, hE⟩ := envOf [(1, 3)] [] [a3] (.cons (⟨by omega, by omega⟩) .nil) (by intro e he; simp at he)
          exact key _ E _ (fun μ => by letI : Facts := ⟨[(1, 3)], []⟩; letI : Env := E; exact .cons (.res .u8 h0) (.cons (.bool true) (.cons (.bool true) (.cons (.sym .u16 (by rw [hE]; simp)) .nil)))) k2_t_t_1
        · obtain ⟨E, hE⟩ := envOf [(4, 65535)] [] [a3] (.cons (⟨by omega, by omega⟩) .nil) (by intro e he; simp at he)
          exact key _ E _ (fun μ => by letI : Facts := ⟨[(4, 65535)], []⟩; letI : Env := E; exact .cons (.res .u8 h0) (.cons (.bool true) (.cons (.bool true) (.cons (.sym .u16 (by rw [hE]; simp)) .nil)))) k2_t_t_2

/-! ### THE ROW's STEP: WRITTEN OUT: LEAVE IT -/
set_option maxRecDepth 100000 in
theorem lifted (os : Os) (started : os.Started) (H : Type) (enc : TypeId × Value → H) :
    ReturnsInHanded {} Try.checked os 8 .any (Rows.serviceRestartsSpec.pre6 enc Try.prog Try.f8 Rows.serviceRestartsRow.domain false) (Rows.serviceRestartsSpec.post enc Try.prog Try.f8 false true false false) := by
  refine of_shaped (C := Try.checked) own started (by kernel_rfl) Try.func8
    (ChangeSpec.witness6 (enc := enc) (C := Try.checked) false ⟨#[], #[.int .u8 0, .bool false, .bool false, .int .u16 0], []⟩ 8 (by kernel_rfl) (by kernel_rfl) (by kernel_rfl) (by kernel_rfl)) ?_
  intro W base args ds gs before hshape hval0 hW
  have hval : ∀ (j : Nat) t v, Try.f8.params[j]? = some t → args[j]? = some v → Value.okWide Try.prog W .any base t v := hval0
  have hW' := hW
  obtain ⟨p, q, hA0, hV, rfl, hfz, hnd⟩ := hW
  have hA : DataW.TrodAll enc Try.prog W 0 (fun _ => true) true Try.f8.params.toList args.toList ds p := hA0
  rw [Try.params8] at hA hval
  obtain ⟨v0, vs0, d0, ds0, p0, q0, hargs, rfl, rfl, h0, r0⟩ := trodAll_cons hA
  obtain ⟨v1, vs1, d1, ds1, p1, q1, rfl, rfl, rfl, h1, r1⟩ := trodAll_cons r0
  obtain ⟨v2, vs2, d2, ds2, p2, q2, rfl, rfl, rfl, h2, r2⟩ := trodAll_cons r1
  obtain ⟨v3, vs3, d3, ds3, p3, q3, rfl, rfl, rfl, h3, r3⟩ := trodAll_cons r2
  obtain ⟨rfl, rfl, rfl⟩ := trodAll_nil r3
  obtain rfl : args = #[v0, v1, v2, v3] := by cases args; simp_all
  obtain ⟨rfl, rfl⟩ := trodVars_none hV
  obtain ⟨a0, rfl, rfl, rfl, w0⟩ := open_int Try.underlying5 (hval 0 5 v0 rfl rfl) h0
  obtain ⟨a1, rfl, rfl, rfl⟩ := open_bool Try.underlying4 (hval 1 4 v1 rfl rfl) h1
  obtain ⟨a2, rfl, rfl, rfl⟩ := open_bool Try.underlying4 (hval 2 4 v2 rfl rfl) h2
  obtain ⟨a3, rfl, rfl, rfl, w3⟩ := open_int Try.underlying49 (hval 3 49 v3 rfl rfl) h3
  clear hA0 hval0
  simp only [List.append_nil] at hW'
  refine (walk a0 a1 a2 a3 w0 w3 W hshape).mono fun e W' ⟨he, hg⟩ => ?_
  subst he
  exact ⟨_, rfl, _, _, _, [], _, [], hW', trodAll_mk1 (shut_bool Try.underlying4 _), (trodAll_cons_mk (shut_int Try.underlying5 w0) (trodAll_cons_mk (shut_bool Try.underlying4 _) (trodAll_cons_mk (shut_bool Try.underlying4 _) (trodAll_cons_mk (shut_int Try.underlying49 w3) trodAll_mk0)))), rfl, hg.frame _, fun h => by cases h⟩

theorem over : Rows.serviceRestartsRow.holds Try.pinned (OpenSpec.ofChange Rows.serviceRestartsSpec) :=
  OpenClaim.holds_of_wide 8 Try.f8 rfl rfl rfl rfl rfl rfl rfl ⟨rfl, rfl, rfl, rfl, rfl⟩ rfl rfl rfl rfl rfl (by kernel_rfl) Try.func8 (by kernel_rfl)
    (of_decide_eq_true (by kernel_rfl)) (by unfold Func.isWrapper; first | (rw [if_pos (by decide +kernel)]; kernel_rfl) | (rw [if_neg (by decide +kernel)]; exact ⟨rfl, rfl⟩))
    (fun os started H enc _ => lifted os started H enc)

theorem proved : Rows.ServiceRestartsSaid :=
  over
#print axioms proved
end Go.Proofs.Ytnoddedgkgkfhaa.serviceRestarts
