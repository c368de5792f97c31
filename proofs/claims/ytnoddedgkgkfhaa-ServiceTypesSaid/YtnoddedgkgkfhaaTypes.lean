/-
  THE SHELL OF A PROOF OF 'Rows.ServiceTypesSaid' ('reveille/reveillelaw20.ServiceTypes'), WRITTEN BY PROGRAM (proof-skeleton.mjs) off the guide's own print for that function. Not trusted: Lean checks it.
  YOURS ARE THE HOLES MARKED 'HOLE' (each bears 'sorry'). ALL ELSE IS THE GUIDE's TEMPLATE (howto/template/XProofs.lean) at this function's number and types: leave it.
-/
import Derived.Test.YtnoddedgkgkfhaaRows
import Derived.WalkKit
import Derived.ProofKit
import Derived.OpenShut
import Derived.Test.YtnoddedgkgkfhaaEv5
namespace Go.Proofs.Ytnoddedgkgkfhaa.serviceTypes
open Go.Ev
open Go.ChangeShapes Go.WideShapes Go.ChangeAt Go.RowKit
set_option linter.unusedVariables false      -- a walk need not use every 'w<i>' (that an integer argument fits its kind)

theorem own : ownKnob Try.prog.godebug = none := by kernel_rfl

theorem k0f : isTrue (Ev.run Try.prog 100000 6 [.res .u8 5 0, .bool false]) = true := by decide +kernel
theorem k0t : isTrue (Ev.run Try.prog 100000 6 [.res .u8 5 0, .bool true]) = true := by decide +kernel
theorem k1f : isTrue (Ev.run Try.prog 100000 6 [.res .u8 5 1, .bool false]) = true := by decide +kernel
theorem k1t : isTrue (Ev.run Try.prog 100000 6 [.res .u8 5 1, .bool true]) = true := by decide +kernel
theorem k2f : isTrue (Ev.run Try.prog 100000 6 [.res .u8 5 2, .bool false]) = true := by decide +kernel
theorem k2t : isTrue (Ev.run Try.prog 100000 6 [.res .u8 5 2, .bool true]) = true := by decide +kernel
theorem k3f : isTrue (Ev.run Try.prog 100000 6 [.res .u8 5 3, .bool false]) = true := by decide +kernel
theorem k3t : isTrue (Ev.run Try.prog 100000 6 [.res .u8 5 3, .bool true]) = true := by decide +kernel
theorem k4f : isTrue (Ev.run Try.prog 100000 6 [.res .u8 5 4, .bool false]) = true := by decide +kernel
theorem k4t : isTrue (Ev.run Try.prog 100000 6 [.res .u8 5 4, .bool true]) = true := by decide +kernel
theorem walk (a0 : Int) (a1 : Bool) (w0 : (Lit.int .u8 a0).wf = true) (w : World) (hs : w.ShapedOpen Try.prog) :
    Calls Try.prog 6 #[.int .u8 a0, .bool a1] w fun e w' => e = .returned (.bool true) ∧ Below w.heap.size w w' := by
  have hmix : Try.prog.follows .mixedOrders = true := Try.checked.mixed
  have h0 : 0 ≤ a0 := by
    have := w0
    simp [Lit.wf, IntKind.min, IntKind.max, IntKind.signed, IntKind.bits] at this
    omega
  obtain ⟨n, rfl⟩ : ∃ n : Nat, a0 = n := ⟨a0.toNat, by omega⟩
  have key : ∀ r, n % 5 = r → isTrue (Ev.run Try.prog 100000 6 [.res .u8 5 r, .bool a1]) = true →
      Calls Try.prog 6 #[.int .u8 (n : Int), .bool a1] w fun e w' => e = .returned (.bool true) ∧ Below w.heap.size w w' := fun r hr h =>
    run_calls hmix (shaped_size hs) (enter_of Try.func6 (by kernel_rfl) (by kernel_rfl)) (fun μ => .cons (.res .u8 hr) (.cons (.bool a1) .nil)) h
  have hlt : n % 5 < 5 := Nat.mod_lt _ (by decide)
  generalize n % 5 = r at hlt key
  have h5 : r = 0 ∨ r = 1 ∨ r = 2 ∨ r = 3 ∨ r = 4 := by omega
  cases a1
  · rcases h5 with rfl | rfl | rfl | rfl | rfl
    · exact key _ rfl k0f
    · exact key _ rfl k1f
    · exact key _ rfl k2f
    · exact key _ rfl k3f
    · exact key _ rfl k4f
  · rcases h5 with rfl | rfl | rfl | rfl | rfl
    · exact key _ rfl k0t
    · exact key _ rfl k1t
    · exact key _ rfl k2t
    · exact key _ rfl k3t
    · exact key _ rfl k4t

/-! ### THE ROW's STEP: WRITTEN OUT: LEAVE IT -/
set_option maxRecDepth 100000 in
theorem lifted (os : Os) (started : os.Started) (H : Type) (enc : TypeId × Value → H) :
    ReturnsInHanded {} Try.checked os 6 .any (Rows.serviceTypesSpec.pre6 enc Try.prog Try.f6 Rows.serviceTypesRow.domain false) (Rows.serviceTypesSpec.post enc Try.prog Try.f6 false true false false) := by
  refine of_shaped (C := Try.checked) own started (by kernel_rfl) Try.func6
    (ChangeSpec.witness6 (enc := enc) (C := Try.checked) false ⟨#[], #[.int .u8 0, .bool false], []⟩ 8 (by kernel_rfl) (by kernel_rfl) (by kernel_rfl) (by kernel_rfl)) ?_
  intro W base args ds gs before hshape hval0 hW
  have hval : ∀ (j : Nat) t v, Try.f6.params[j]? = some t → args[j]? = some v → Value.okWide Try.prog W .any base t v := hval0
  have hW' := hW
  obtain ⟨p, q, hA0, hV, rfl, hfz, hnd⟩ := hW
  have hA : DataW.TrodAll enc Try.prog W 0 (fun _ => true) true Try.f6.params.toList args.toList ds p := hA0
  rw [Try.params6] at hA hval
  obtain ⟨v0, vs0, d0, ds0, p0, q0, hargs, rfl, rfl, h0, r0⟩ := trodAll_cons hA
  obtain ⟨v1, vs1, d1, ds1, p1, q1, rfl, rfl, rfl, h1, r1⟩ := trodAll_cons r0
  obtain ⟨rfl, rfl, rfl⟩ := trodAll_nil r1
  obtain rfl : args = #[v0, v1] := by cases args; simp_all
  obtain ⟨rfl, rfl⟩ := trodVars_none hV
  obtain ⟨a0, rfl, rfl, rfl, w0⟩ := open_int Try.underlying5 (hval 0 5 v0 rfl rfl) h0
  obtain ⟨a1, rfl, rfl, rfl⟩ := open_bool Try.underlying4 (hval 1 4 v1 rfl rfl) h1
  clear hA0 hval0
  simp only [List.append_nil] at hW'
  refine (walk a0 a1 w0 W hshape).mono fun e W' ⟨he, hg⟩ => ?_
  subst he
  exact ⟨_, rfl, _, _, _, [], _, [], hW', trodAll_mk1 (shut_bool Try.underlying4 _), (trodAll_cons_mk (shut_int Try.underlying5 w0) (trodAll_cons_mk (shut_bool Try.underlying4 _) trodAll_mk0)), rfl, hg.frame _, fun h => by cases h⟩

theorem over : Rows.serviceTypesRow.holds Try.pinned (OpenSpec.ofChange Rows.serviceTypesSpec) :=
  OpenClaim.holds_of_wide 6 Try.f6 rfl rfl rfl rfl rfl rfl rfl ⟨rfl, rfl, rfl, rfl, rfl⟩ rfl rfl rfl rfl rfl (by kernel_rfl) Try.func6 (by kernel_rfl)
    (of_decide_eq_true (by kernel_rfl)) (by unfold Func.isWrapper; first | (rw [if_pos (by decide +kernel)]; kernel_rfl) | (rw [if_neg (by decide +kernel)]; exact ⟨rfl, rfl⟩))
    (fun os started H enc _ => lifted os started H enc)

/-- ████ THE STATEMENT ████ -/
theorem proved : Rows.ServiceTypesSaid :=
  over
#print axioms proved
end Go.Proofs.Ytnoddedgkgkfhaa.serviceTypes
