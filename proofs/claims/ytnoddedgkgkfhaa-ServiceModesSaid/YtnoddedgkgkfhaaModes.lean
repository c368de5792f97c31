/- The statement 'ServiceModes' holds of the given program: whatever the input, the law's function returns true. No condition. -/
import Derived.Test.YtnoddedgkgkfhaaRows
import Derived.WalkKit
import Derived.ProofKit
import Derived.OpenShut
import Derived.ShutString
import Derived.Test.YtnoddedgkgkfhaaEv5
import Derived.Test.YtnoddedgkgkfhaaModesK0
namespace Go.Proofs.Ytnoddedgkgkfhaa.serviceModes
open Go.Ev
open Go.ChangeShapes Go.WideShapes Go.ChangeAt Go.RowKit
open Go.ChangeMaps (open_string shut_string)
set_option linter.unusedVariables false      -- a walk need not use every 'w<i>' (that an integer argument fits its kind)

theorem own : ownKnob Try.prog.godebug = none := by kernel_rfl

theorem walk (a0 : Int) (a1 : Int) (w0 : (Lit.int .u8 a0).wf = true) (w1 : (Lit.int .u8 a1).wf = true) (w : World) (hs : w.ShapedOpen Try.prog) :
    Calls Try.prog 12 #[.int .u8 a0, .int .u8 a1] w fun e w' => e = .returned (.bool true) ∧ Below w.heap.size w w' := by
  have hmix : Try.prog.follows .mixedOrders = true := Try.checked.mixed
  obtain ⟨n0, rfl⟩ : ∃ n : Nat, a0 = n := ⟨a0.toNat, by
    have := w0
    simp [Lit.wf, IntKind.min, IntKind.max, IntKind.signed, IntKind.bits] at this
    omega⟩
  have hb0 : 0 ≤ (n0 : Int) ∧ (n0 : Int) ≤ 255 := by
    have := w0
    simp [Lit.wf, IntKind.min, IntKind.max, IntKind.signed, IntKind.bits] at this
    omega
  have hb1 : 0 ≤ a1 ∧ a1 ≤ 255 := by
    have := w1
    simp [Lit.wf, IntKind.min, IntKind.max, IntKind.signed, IntKind.bits] at this
    omega
  have key : ∀ (F : Facts) (E : @Env F) (l : List AV), (∀ μ, @VRs F E μ l [.int .u8 (n0 : Int), .int .u8 a1]) → isTrue (@Ev.run F Try.prog 100000 12 l) = true →
      Calls Try.prog 12 #[.int .u8 (n0 : Int), .int .u8 a1] w fun e w' => e = .returned (.bool true) ∧ Below w.heap.size w w' := fun F E l hv h =>
    run_calls (F := F) (E := E) hmix (shaped_size hs) (enter_of Try.func12 (by kernel_rfl) (by kernel_rfl)) hv h
  have ho0 : n0 % 3 = 0 ∨ n0 % 3 = 1 ∨ n0 % 3 = 2 := by omega
  have ho1 : (0 ≤ a1 ∧ a1 ≤ 255) := by omega
  rcases ho0 with h0 | h0 | h0
  · have h1 := ho1
    obtain ⟨E, hE⟩ := envOf [(0, 255)] [] [a1] (.cons (⟨by omega, by omega⟩) .nil) (by intro e he; simp at he)
    exact key _ E _ (fun μ => by letI : Facts := ⟨[(0, 255)], []⟩; letI : Env := E; exact .cons (.res .u8 h0) (.cons (.sym .u8 (by rw [hE]; simp)) .nil)) k0_0
  · have h1 := ho1
    obtain ⟨E, hE⟩ := envOf [(0, 255)] [] [a1] (.cons (⟨by omega, by omega⟩) .nil) (by intro e he; simp at he)
    exact key _ E _ (fun μ => by letI : Facts := ⟨[(0, 255)], []⟩; letI : Env := E; exact .cons (.res .u8 h0) (.cons (.sym .u8 (by rw [hE]; simp)) .nil)) k1_0
  · have h1 := ho1
    obtain ⟨E, hE⟩ := envOf [(0, 255)] [] [a1] (.cons (⟨by omega, by omega⟩) .nil) (by intro e he; simp at he)
    exact key _ E _ (fun μ => by letI : Facts := ⟨[(0, 255)], []⟩; letI : Env := E; exact .cons (.res .u8 h0) (.cons (.sym .u8 (by rw [hE]; simp)) .nil)) k2_0

/-! ### THE ROW's STEP: WRITTEN OUT: LEAVE IT -/
set_option maxRecDepth 100000 in
theorem lifted (os : Os) (started : os.Started) (H : Type) (enc : TypeId × Value → H) :
    ReturnsInHanded {} Try.checked os 12 .any (Rows.serviceModesSpec.pre6 enc Try.prog Try.f12 Rows.serviceModesRow.domain false) (Rows.serviceModesSpec.post enc Try.prog Try.f12 false true false false) := by
  refine of_shaped (C := Try.checked) own started (by kernel_rfl) Try.func12
    (ChangeSpec.witness6 (enc := enc) (C := Try.checked) false ⟨#[], #[.int .u8 0, .int .u8 0], []⟩ 8 (by kernel_rfl) (by kernel_rfl) (by kernel_rfl) (by kernel_rfl)) ?_
  intro W base args ds gs before hshape hval0 hW
  have hval : ∀ (j : Nat) t v, Try.f12.params[j]? = some t → args[j]? = some v → Value.okWide Try.prog W .any base t v := hval0
  have hW' := hW
  obtain ⟨p, q, hA0, hV, rfl, hfz, hnd⟩ := hW
  have hA : DataW.TrodAll enc Try.prog W 0 (fun _ => true) true Try.f12.params.toList args.toList ds p := hA0
  rw [Try.params12] at hA hval
  obtain ⟨v0, vs0, d0, ds0, p0, q0, hargs, rfl, rfl, h0, r0⟩ := trodAll_cons hA
  obtain ⟨v1, vs1, d1, ds1, p1, q1, rfl, rfl, rfl, h1, r1⟩ := trodAll_cons r0
  obtain ⟨rfl, rfl, rfl⟩ := trodAll_nil r1
  obtain rfl : args = #[v0, v1] := by cases args; simp_all
  obtain ⟨rfl, rfl⟩ := trodVars_none hV
  obtain ⟨a0, rfl, rfl, rfl, w0⟩ := open_int Try.underlying5 (hval 0 5 v0 rfl rfl) h0
  obtain ⟨a1, rfl, rfl, rfl, w1⟩ := open_int Try.underlying5 (hval 1 5 v1 rfl rfl) h1
  clear hA0 hval0
  simp only [List.append_nil] at hW'
  refine (walk a0 a1 w0 w1 W hshape).mono fun e W' ⟨he, hg⟩ => ?_
  subst he
  exact ⟨_, rfl, _, _, _, [], _, [], hW', trodAll_mk1 (shut_bool Try.underlying4 _), (trodAll_cons_mk (shut_int Try.underlying5 w0) (trodAll_cons_mk (shut_int Try.underlying5 w1) trodAll_mk0)), rfl, hg.frame _, fun h => by cases h⟩

theorem over : Rows.serviceModesRow.holds Try.pinned (OpenSpec.ofChange Rows.serviceModesSpec) :=
  OpenClaim.holds_of_wide 12 Try.f12 rfl rfl rfl rfl rfl rfl rfl ⟨rfl, rfl, rfl, rfl, rfl⟩ rfl rfl rfl rfl rfl (by kernel_rfl) Try.func12 (by kernel_rfl)
    (of_decide_eq_true (by kernel_rfl)) (by unfold Func.isWrapper; first | (rw [if_pos (by decide +kernel)]; kernel_rfl) | (rw [if_neg (by decide +kernel)]; exact ⟨rfl, rfl⟩))
    (fun os started H enc _ => lifted os started H enc)

theorem proved : Rows.ServiceModesSaid :=
  over
#print axioms proved
end Go.Proofs.Ytnoddedgkgkfhaa.serviceModes
