/- The statement 'TriggerMounts' holds of the given program: whatever the input, the law's function returns true. The package-level variables that its row lists read as the program's text lays them. -/
import Derived.Test.YtefajjeaakfbfaaGreatDoorRows
import Derived.Test.YtefajjeaakfbfaaGreatDoorTie
import Derived.Test.YtefajjeaakfbfaaGreatDoorCards
import Derived.LaidMore
import Derived.Lay
import Derived.SevenTiedAt
import Derived.Stop.Joined
import Derived.WalkKit
import Derived.ProofKit
import Derived.OpenShut
import Derived.ShutString
import Derived.Test.YtefajjeaakfbfaaGreatDoorEv5
import Derived.Test.YtefajjeaakfbfaaGreatDoorMountsK0
namespace Go.Proofs.YtefajjeaakfbfaaGreatDoor.triggerMounts
open Go.Ev
open Go.ChangeShapes Go.WideShapes Go.ChangeAt Go.RowKit
open Go.ChangeMaps (open_string shut_string)
set_option linter.unusedVariables false      -- a walk need not use every 'w<i>' (that an integer argument fits its kind)

theorem own : ownKnob Tryz.prog.godebug = none := by kernel_rfl

theorem walk (a0 : Bool) (a1 : Bool) (w : World) (hs : w.ShapedOpen Tryz.prog) :
    Calls Tryz.prog 7 #[.bool a0, .bool a1] w fun e w' => e = .returned (.bool true) ∧ Below w.heap.size w w' := by
  have hmix : Tryz.prog.follows .mixedOrders = true := Tryz.checked.mixed
  have key : ∀ (F : Facts) (E : @Env F) (l : List AV), (∀ μ, @VRs F E μ l [.bool a0, .bool a1]) → isTrue (@Ev.run F Tryz.prog 100000 7 l) = true →
      Calls Tryz.prog 7 #[.bool a0, .bool a1] w fun e w' => e = .returned (.bool true) ∧ Below w.heap.size w w' := fun F E l hv h =>
    run_calls (F := F) (E := E) hmix (shaped_size hs) (enter_of Tryz.func7 (by kernel_rfl) (by kernel_rfl)) hv h
  cases a0
  · cases a1
    · obtain ⟨E, hE⟩ := envOf [] [] [] (.nil) (by intro e he; simp at he)
      exact key _ E _ (fun μ => by letI : Facts := ⟨[], []⟩; letI : Env := E; exact .cons (.bool false) (.cons (.bool false) .nil)) kf_f
    · obtain ⟨E, hE⟩ := envOf [] [] [] (.nil) (by intro e he; simp at he)
      exact key _ E _ (fun μ => by letI : Facts := ⟨[], []⟩; letI : Env := E; exact .cons (.bool false) (.cons (.bool true) .nil)) kf_t
  · cases a1
    · obtain ⟨E, hE⟩ := envOf [] [] [] (.nil) (by intro e he; simp at he)
      exact key _ E _ (fun μ => by letI : Facts := ⟨[], []⟩; letI : Env := E; exact .cons (.bool true) (.cons (.bool false) .nil)) kt_f
    · obtain ⟨E, hE⟩ := envOf [] [] [] (.nil) (by intro e he; simp at he)
      exact key _ E _ (fun μ => by letI : Facts := ⟨[], []⟩; letI : Env := E; exact .cons (.bool true) (.cons (.bool true) .nil)) kt_t

/-! ### THE ROW's STEP: WRITTEN OUT: LEAVE IT -/
set_option maxRecDepth 100000 in
theorem lifted (os : Os) (started : os.Started) (H : Type) (enc : TypeId × Value → H) :
    ReturnsInHanded {} Tryz.checked os 7 .any (fun w args => (Rows.triggerMountsSpec.pre enc Tryz.prog Tryz.f7 Rows.triggerMountsRow.domain false w args ∧ laidMetH Tryz.prog Rows.triggerMountsRow.laid w) ∧ sizedMet enc Tryz.prog Tryz.f7 (OpenSpec.ofChange Rows.triggerMountsSpec) false w args) (Rows.triggerMountsSpec.post enc Tryz.prog Tryz.f7 false true false false) := by
  refine of_shaped_and (C := Tryz.checked) (X := fun w _ => laidMetH Tryz.prog Rows.triggerMountsRow.laid w) (fun _ _ _ hh h => h.of_heap hh) own started (by kernel_rfl) Tryz.func7
    (ChangeSpec.witness_shaped (enc := enc) (C := Tryz.checked) (os := os) (X := fun w _ => laidMetH Tryz.prog Rows.triggerMountsRow.laid w) false (World.laidAll Tryz.prog os Rows.triggerMountsRow.laid) #[.bool false, .bool false] 8 (World.laidAll_os _ _ _)
      (World.shaped_of_ZipB (by kernel_rfl) (by kernel_rfl)) (by kernel_rfl) (by kernel_rfl) (by kernel_rfl)
      (by rw [MakeChecks.laidMetH_plain _ _ _ (by kernel_rfl)]; exact laidMet_laidAll _ (by kernel_rfl) (by kernel_rfl))) ?_
  intro W base args ds gs before hshape hval0 hW hL
  have hval : ∀ (j : Nat) t v, Tryz.f7.params[j]? = some t → args[j]? = some v → Value.okWide Tryz.prog W .any base t v := hval0
  have hW' := hW
  obtain ⟨p, q, hA0, hV, rfl, hfz, hnd⟩ := hW
  have hA : DataW.TrodAll enc Tryz.prog W 0 (fun _ => true) true Tryz.f7.params.toList args.toList ds p := hA0
  rw [Tryz.params7] at hA hval
  obtain ⟨v0, vs0, d0, ds0, p0, q0, hargs, rfl, rfl, h0, r0⟩ := trodAll_cons hA
  obtain ⟨v1, vs1, d1, ds1, p1, q1, rfl, rfl, rfl, h1, r1⟩ := trodAll_cons r0
  obtain ⟨rfl, rfl, rfl⟩ := trodAll_nil r1
  obtain rfl : args = #[v0, v1] := by cases args; simp_all
  obtain ⟨rfl, rfl⟩ := trodVars_none hV
  obtain ⟨a0, rfl, rfl, rfl⟩ := open_bool Tryz.underlying4 (hval 0 4 v0 rfl rfl) h0
  obtain ⟨a1, rfl, rfl, rfl⟩ := open_bool Tryz.underlying4 (hval 1 4 v1 rfl rfl) h1
  clear hA0 hval0
  simp only [List.append_nil] at hW'
  refine (walk a0 a1 W hshape).mono fun e W' ⟨he, hg⟩ => ?_
  subst he
  exact ⟨_, rfl, _, _, _, [], _, [], hW', trodAll_mk1 (shut_bool Tryz.underlying4 _), (trodAll_cons_mk (shut_bool Tryz.underlying4 _) (trodAll_cons_mk (shut_bool Tryz.underlying4 _) trodAll_mk0)), rfl, hg.frame _, fun h => by cases h⟩

theorem over : Rows.triggerMountsRow.holds Tryz.pinned (OpenSpec.ofChange Rows.triggerMountsSpec) :=
  OpenClaim.holds_of_wide 7 Tryz.f7 rfl rfl rfl rfl rfl rfl rfl ⟨rfl, rfl, rfl, rfl, rfl⟩ rfl rfl rfl rfl rfl (by kernel_rfl) Tryz.func7 (by kernel_rfl)
    (of_decide_eq_true (by kernel_rfl)) (by unfold Func.isWrapper; first | (rw [if_pos (by decide +kernel)]; kernel_rfl) | (rw [if_neg (by decide +kernel)]; exact ⟨rfl, rfl⟩))
    (fun os started H enc _ => lifted os started H enc)

theorem proved : Rows.TriggerMountsCardSaid :=
  Claim7.holds_tied_plain_at .later [] [.data, .data, .data, .data, .sentinel, .sentinel, .wider, .wider, .wider, .wider, .wider, .wider, .pinned] true (true, "75da4ab823b5e8fffe5d285422d492c4b5a412f7197b365a2b26c97816c654a1") true over (fun _ h => by cases h) (by kernel_rfl) (fun _ h => by cases h) triggerMounts_row_tie rfl ⟨rfl, rfl⟩ (by kernel_rfl) rfl
    (fun f fn hf hfn => by
      obtain rfl : f = 7 := Option.some.inj ((show Tryz.prog.funcNamed "reveille/reveillelaw21.TriggerMounts" = some 7 by kernel_rfl).symm.trans hf) |>.symm
      obtain rfl : fn = Tryz.f7 := (Option.some.inj (Tryz.func7.symm.trans hfn)).symm
      exact ⟨by kernel_rfl, fun j t ht => by
        rw [Tryz.params7] at ht
        have hm : t ∈ [4] := by
          have := Array.mem_of_getElem? ht
          simp at this
          simp
          omega
        have hall : ([4].all fun u => !Tryz.prog.wantsStandIn u) = true := by kernel_rfl
        exact (show Tryz.prog.wantsStandIn t = false by simpa using List.all_eq_true.1 hall t hm)⟩)
    (by kernel_rfl)
#print axioms proved
end Go.Proofs.YtefajjeaakfbfaaGreatDoor.triggerMounts
