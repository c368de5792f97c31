/- The statement 'ServiceStages' holds of the given program: whatever the input, the law's function returns true. No condition. -/
import Derived.Test.YtnoddedgkgkfhaaRows
import Derived.WalkKit
import Derived.ProofKit
import Derived.OpenShut
import Derived.ShutString
import Derived.Test.YtnoddedgkgkfhaaEv5
import Derived.Test.YtnoddedgkgkfhaaStagesK0
import Derived.Test.YtnoddedgkgkfhaaStagesK1
import Derived.Test.YtnoddedgkgkfhaaStagesK2
import Derived.Test.YtnoddedgkgkfhaaStagesK3
import Derived.Test.YtnoddedgkgkfhaaStagesK4
import Derived.Test.YtnoddedgkgkfhaaStagesK5
import Derived.Test.YtnoddedgkgkfhaaStagesK6
import Derived.Test.YtnoddedgkgkfhaaStagesK7
import Derived.Test.YtnoddedgkgkfhaaStagesK8
import Derived.Test.YtnoddedgkgkfhaaStagesK9
import Derived.Test.YtnoddedgkgkfhaaStagesK10
import Derived.Test.YtnoddedgkgkfhaaStagesK11
import Derived.Test.YtnoddedgkgkfhaaStagesK12
import Derived.Test.YtnoddedgkgkfhaaStagesK13
import Derived.Test.YtnoddedgkgkfhaaStagesK14
import Derived.Test.YtnoddedgkgkfhaaStagesK15
namespace Go.Proofs.Ytnoddedgkgkfhaa.serviceStages
open Go.Ev
open Go.ChangeShapes Go.WideShapes Go.ChangeAt Go.RowKit
open Go.ChangeMaps (open_string shut_string)
set_option linter.unusedVariables false      -- a walk need not use every 'w<i>' (that an integer argument fits its kind)

theorem own : ownKnob Try.prog.godebug = none := by kernel_rfl

theorem walk (a0 : Int) (a1 : Int) (w0 : (Lit.int .u8 a0).wf = true) (w1 : (Lit.int .u8 a1).wf = true) (w : World) (hs : w.ShapedOpen Try.prog) :
    Calls Try.prog 5 #[.int .u8 a0, .int .u8 a1] w fun e w' => e = .returned (.bool true) ∧ Below w.heap.size w w' := by
  have hmix : Try.prog.follows .mixedOrders = true := Try.checked.mixed
  obtain ⟨n0, rfl⟩ : ∃ n : Nat, a0 = n := ⟨a0.toNat, by
    have := w0
    simp [Lit.wf, IntKind.min, IntKind.max, IntKind.signed, IntKind.bits] at this
    omega⟩
  obtain ⟨n1, rfl⟩ : ∃ n : Nat, a1 = n := ⟨a1.toNat, by
    have := w1
    simp [Lit.wf, IntKind.min, IntKind.max, IntKind.signed, IntKind.bits] at this
    omega⟩
  have key : ∀ r0 r1, n0 % 8 = r0 → n1 % 16 = r1 →  isTrue (Ev.run Try.prog 100000 5 [.res .u8 8 r0, .res .u8 16 r1]) = true →
      Calls Try.prog 5 #[.int .u8 (n0 : Int), .int .u8 (n1 : Int)] w fun e w' => e = .returned (.bool true) ∧ Below w.heap.size w w' := fun r0 r1 hr0 hr1 h =>
    run_calls hmix (shaped_size hs) (enter_of Try.func5 (by kernel_rfl) (by kernel_rfl)) (fun μ => .cons (.res .u8 hr0) (.cons (.res .u8 hr1) .nil)) h
  have hlt0 : n0 % 8 < 8 := Nat.mod_lt _ (by decide)
  generalize n0 % 8 = r0 at hlt0 key
  have ho0 : r0 = 0 ∨ r0 = 1 ∨ r0 = 2 ∨ r0 = 3 ∨ r0 = 4 ∨ r0 = 5 ∨ r0 = 6 ∨ r0 = 7 := by omega
  have hlt1 : n1 % 16 < 16 := Nat.mod_lt _ (by decide)
  generalize n1 % 16 = r1 at hlt1 key
  have ho1 : r1 = 0 ∨ r1 = 1 ∨ r1 = 2 ∨ r1 = 3 ∨ r1 = 4 ∨ r1 = 5 ∨ r1 = 6 ∨ r1 = 7 ∨ r1 = 8 ∨ r1 = 9 ∨ r1 = 10 ∨ r1 = 11 ∨ r1 = 12 ∨ r1 = 13 ∨ r1 = 14 ∨ r1 = 15 := by omega
  rcases ho0 with rfl | rfl | rfl | rfl | rfl | rfl | rfl | rfl
  · rcases ho1 with rfl | rfl | rfl | rfl | rfl | rfl | rfl | rfl | rfl | rfl | rfl | rfl | rfl | rfl | rfl | rfl
    · exact key _ _ rfl rfl k0_0
    · exact key _ _ rfl rfl k0_1
    · exact key _ _ rfl rfl k0_2
    · exact key _ _ rfl rfl k0_3
    · exact key _ _ rfl rfl k0_4
    · exact key _ _ rfl rfl k0_5
    · exact key _ _ rfl rfl k0_6
    · exact key _ _ rfl rfl k0_7
    · exact key _ _ rfl rfl k0_8
    · exact key _ _ rfl rfl k0_9
    · exact key _ _ rfl rfl k0_10
    · exact key _ _ rfl rfl k0_11
    · exact key _ _ rfl rfl k0_12
    · exact key _ _ rfl rfl k0_13
    · exact key _ _ rfl rfl k0_14
    · exact key _ _ rfl rfl k0_15
  · rcases ho1 with rfl | rfl | rfl | rfl | rfl | rfl | rfl | rfl | rfl | rfl | rfl | rfl | rfl | rfl | rfl | rfl
    · exact key _ _ rfl rfl k1_0
    · exact key _ _ rfl rfl k1_1
    · exact key _ _ rfl rfl k1_2
    · exact key _ _ rfl rfl k1_3
    · exact key _ _ rfl rfl k1_4
    · exact key _ _ rfl rfl k1_5
    · exact key _ _ rfl rfl k1_6
    · exact key _ _ rfl rfl k1_7
    · exact key _ _ rfl rfl k1_8
    · exact key _ _ rfl rfl k1_9
    · exact key _ _ rfl rfl k1_10
    · exact key _ _ rfl rfl k1_11
    · exact key _ _ rfl rfl k1_12
    · exact key _ _ rfl rfl k1_13
    · exact key _ _ rfl rfl k1_14
    · exact key _ _ rfl rfl k1_15
  · rcases ho1 with rfl | rfl | rfl | rfl | rfl | rfl | rfl | rfl | rfl | rfl | rfl | rfl | rfl | rfl | rfl | rfl
    · exact key _ _ rfl rfl k2_0
    · exact key _ _ rfl rfl k2_1
    · exact key _ _ rfl rfl k2_2
    · exact key _ _ rfl rfl k2_3
    · exact key _ _ rfl rfl k2_4
    · exact key _ _ rfl rfl k2_5
    · exact key _ _ rfl rfl k2_6
    · exact key _ _ rfl rfl k2_7
    · exact key _ _ rfl rfl k2_8
    · exact key _ _ rfl rfl k2_9
    · exact key _ _ rfl rfl k2_10
    · exact key _ _ rfl rfl k2_11
    · exact key _ _ rfl rfl k2_12
    · exact key _ _ rfl rfl k2_13
    · exact key _ _ rfl rfl k2_14
    · exact key _ _ rfl rfl k2_15
  · rcases ho1 with rfl | rfl | rfl | rfl | rfl | rfl | rfl | rfl | rfl | rfl | rfl | rfl | rfl | rfl | rfl | rfl
    · exact key _ _ rfl rfl k3_0
    · exact key _ _ rfl rfl k3_1
    · exact key _ _ rfl rfl k3_2
    · exact key _ _ rfl rfl k3_3
    · exact key _ _ rfl rfl k3_4
    · exact key _ _ rfl rfl k3_5
    · exact key _ _ rfl rfl k3_6
    · exact key _ _ rfl rfl k3_7
    · exact key _ _ rfl rfl k3_8
    · exact key _ _ rfl rfl k3_9
    · exact key _ _ rfl rfl k3_10
    · exact key _ _ rfl rfl k3_11
    · exact key _ _ rfl rfl k3_12
    · exact key _ _ rfl rfl k3_13
    · exact key _ _ rfl rfl k3_14
    · exact key _ _ rfl rfl k3_15
  · rcases ho1 with rfl | rfl | rfl | rfl | rfl | rfl | rfl | rfl | rfl | rfl | rfl | rfl | rfl | rfl | rfl | rfl
    · exact key _ _ rfl rfl k4_0
    · exact key _ _ rfl rfl k4_1
    · exact key _ _ rfl rfl k4_2
    · exact key _ _ rfl rfl k4_3
    · exact key _ _ rfl rfl k4_4
    · exact key _ _ rfl rfl k4_5
    · exact key _ _ rfl rfl k4_6
    · exact key _ _ rfl rfl k4_7
    · exact key _ _ rfl rfl k4_8
    · exact key _ _ rfl rfl k4_9
    · exact key _ _ rfl rfl k4_10
    · exact key _ _ rfl rfl k4_11
    · exact key _ _ rfl rfl k4_12
    · exact key _ _ rfl rfl k4_13
    · exact key _ _ rfl rfl k4_14
    · exact key _ _ rfl rfl k4_15
  · rcases ho1 with rfl | rfl | rfl | rfl | rfl | rfl | rfl | rfl | rfl | rfl | rfl | rfl | rfl | rfl | rfl | rfl
    · exact key _ _ rfl rfl k5_0
    · exact key _ _ rfl rfl k5_1
    · exact key _ _ rfl rfl k5_2
    · exact key _ _ rfl rfl k5_3
    · exact key _ _ rfl rfl k5_4
    · exact key _ _ rfl rfl k5_5
    · exact key _ _ rfl rfl k5_6
    · exact key _ _ rfl rfl k5_7
    · exact key _ _ rfl rfl k5_8
    · exact key _ _ rfl rfl k5_9
    · exact key _ _ rfl rfl k5_10
    · exact key _ _ rfl rfl k5_11
    · exact key _ _ rfl rfl k5_12
    · exact key _ _ rfl rfl k5_13
    · exact key _ _ rfl rfl k5_14
    · exact key _ _ rfl rfl k5_15
  · rcases ho1 with rfl | rfl | rfl | rfl | rfl | rfl | rfl | rfl | rfl | rfl | rfl | rfl | rfl | rfl | rfl | rfl
    · exact key _ _ rfl rfl k6_0
    · exact key _ _ rfl rfl k6_1
    · exact key _ _ rfl rfl k6_2
    · exact key _ _ rfl rfl k6_3
    · exact key _ _ rfl rfl k6_4
    · exact key _ _ rfl rfl k6_5
    · exact key _ _ rfl rfl k6_6
    · exact key _ _ rfl rfl k6_7
    · exact key _ _ rfl rfl k6_8
    · exact key _ _ rfl rfl k6_9
    · exact key _ _ rfl rfl k6_10
    · exact key _ _ rfl rfl k6_11
    · exact key _ _ rfl rfl k6_12
    · exact key _ _ rfl rfl k6_13
    · exact key _ _ rfl rfl k6_14
    · exact key _ _ rfl rfl k6_15
  · rcases ho1 with rfl | rfl | rfl | rfl | rfl | rfl | rfl | rfl | rfl | rfl | rfl | rfl | rfl | rfl | rfl | rfl
    · exact key _ _ rfl rfl k7_0
    · exact key _ _ rfl rfl k7_1
    · exact key _ _ rfl rfl k7_2
    · exact key _ _ rfl rfl k7_3
    · exact key _ _ rfl rfl k7_4
    · exact key _ _ rfl rfl k7_5
    · exact key _ _ rfl rfl k7_6
    · exact key _ _ rfl rfl k7_7
    · exact key _ _ rfl rfl k7_8
    · exact key _ _ rfl rfl k7_9
    · exact key _ _ rfl rfl k7_10
    · exact key _ _ rfl rfl k7_11
    · exact key _ _ rfl rfl k7_12
    · exact key _ _ rfl rfl k7_13
    · exact key _ _ rfl rfl k7_14
    · exact key _ _ rfl rfl k7_15

/-! ### THE ROW's STEP: WRITTEN OUT: LEAVE IT -/
set_option maxRecDepth 100000 in
theorem lifted (os : Os) (started : os.Started) (H : Type) (enc : TypeId × Value → H) :
    ReturnsInHanded {} Try.checked os 5 .any (Rows.serviceStagesSpec.pre6 enc Try.prog Try.f5 Rows.serviceStagesRow.domain false) (Rows.serviceStagesSpec.post enc Try.prog Try.f5 false true false false) := by
  refine of_shaped (C := Try.checked) own started (by kernel_rfl) Try.func5
    (ChangeSpec.witness6 (enc := enc) (C := Try.checked) false ⟨#[], #[.int .u8 0, .int .u8 0], []⟩ 8 (by kernel_rfl) (by kernel_rfl) (by kernel_rfl) (by kernel_rfl)) ?_
  intro W base args ds gs before hshape hval0 hW
  have hval : ∀ (j : Nat) t v, Try.f5.params[j]? = some t → args[j]? = some v → Value.okWide Try.prog W .any base t v := hval0
  have hW' := hW
  obtain ⟨p, q, hA0, hV, rfl, hfz, hnd⟩ := hW
  have hA : DataW.TrodAll enc Try.prog W 0 (fun _ => true) true Try.f5.params.toList args.toList ds p := hA0
  rw [Try.params5] at hA hval
  obtain ⟨v0, vs0, d0, ds0, p0, q0, hargs, rfl, rfl, h0, r0⟩ := trodAll_cons hA
  obtain ⟨v1, vs1, d1, ds1, p1, q1, rfl, rfl, rfl, h1, r1⟩ := trodAll_cons r0
  obtain ⟨rfl, rfl, rfl⟩ := trodAll_nil r1
  obtain rfl : args = #[v0, v1] := by cases args; simp_all
  obtain ⟨rfl, rfl⟩ := trodVars_none hV
  obtain ⟨a0, rfl, rfl, rfl, w0⟩ := open_int Try.underlying5 (hval 0 5 v0 rfl rfl) h0
  obtain ⟨a1, rfl, rfl, rfl, w1⟩ := open_int Try.underlying5 (hval 1 5 v1 rfl rfl) h1
  clear hA0 hval0
  simp only [List.append_nil] at hW'
  refine (walk a0 a1 w0 w1 W hshape).mono fun e W' ⟨he, hg⟩ => ?_
  subst he
  exact ⟨_, rfl, _, _, _, [], _, [], hW', trodAll_mk1 (shut_bool Try.underlying4 _), (trodAll_cons_mk (shut_int Try.underlying5 w0) (trodAll_cons_mk (shut_int Try.underlying5 w1) trodAll_mk0)), rfl, hg.frame _, fun h => by cases h⟩

theorem over : Rows.serviceStagesRow.holds Try.pinned (OpenSpec.ofChange Rows.serviceStagesSpec) :=
  OpenClaim.holds_of_wide 5 Try.f5 rfl rfl rfl rfl rfl rfl rfl ⟨rfl, rfl, rfl, rfl, rfl⟩ rfl rfl rfl rfl rfl (by kernel_rfl) Try.func5 (by kernel_rfl)
    (of_decide_eq_true (by kernel_rfl)) (by unfold Func.isWrapper; first | (rw [if_pos (by decide +kernel)]; kernel_rfl) | (rw [if_neg (by decide +kernel)]; exact ⟨rfl, rfl⟩))
    (fun os started H enc _ => lifted os started H enc)

theorem proved : Rows.ServiceStagesSaid :=
  over
#print axioms proved
end Go.Proofs.Ytnoddedgkgkfhaa.serviceStages
